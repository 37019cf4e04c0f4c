import Derived.Test.YtiiegfkjmnoijaaGreatDoorRows
import Derived.JoinedOf
import Derived.KernelRfl
set_option linter.all false
namespace Go.Proofs.YtiiegfkjmnoijaaGreatDoor
open Go
set_option maxRecDepth 100000
theorem qzV:(λ(P:Program) (f:FuncId) (fn:Func) (s:ChangeSpec) (c:OpenClaim)=>((c.inPlace==P.inPlace f):Bool)) Tryz.prog 12 Tryz.f12 Rows.provenanceExplainsSpec Rows.provenanceExplainsRow=true:=by kernel_rfl
theorem qtK:(λ(P:Program) (f:FuncId) (fn:Func) (s:ChangeSpec) (c:OpenClaim)=>((c.unfollowed==P.unfollowed f):Bool)) Tryz.prog 12 Tryz.f12 Rows.provenanceExplainsSpec Rows.provenanceExplainsRow=true:=by kernel_rfl
end Go.Proofs.YtiiegfkjmnoijaaGreatDoor
