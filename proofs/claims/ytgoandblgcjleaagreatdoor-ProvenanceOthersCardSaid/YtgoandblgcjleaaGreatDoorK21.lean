import Derived.Test.YtgoandblgcjleaaGreatDoorRows
import Derived.JoinedOf
import Derived.KernelRfl
set_option linter.all false
set_option linter.unusedSimpArgs false
set_option linter.unusedVariables false
set_option linter.unusedSectionVars false
namespace Go.Proofs.YtgoandblgcjleaaGreatDoor
open Go
set_option maxRecDepth 100000
theorem qwH:(fun (P:Program) (f:FuncId) (fn:Func) (s:ChangeSpec) (c:OpenClaim)=>((c.recurses==P.recurses f):Bool)) Tryz.prog 3 Tryz.f3 Rows.provenanceOthersSpec Rows.provenanceOthersRow=true:=by kernel_rfl
theorem qwI:(fun (P:Program) (f:FuncId) (fn:Func) (s:ChangeSpec) (c:OpenClaim)=>((c.named==P.varsNamed f):Bool)) Tryz.prog 3 Tryz.f3 Rows.provenanceOthersSpec Rows.provenanceOthersRow=true:=by kernel_rfl
end Go.Proofs.YtgoandblgcjleaaGreatDoor
