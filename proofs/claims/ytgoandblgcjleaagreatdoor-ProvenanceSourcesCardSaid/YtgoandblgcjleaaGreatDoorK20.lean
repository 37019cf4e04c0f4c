import Derived.Test.YtgoandblgcjleaaGreatDoorRows
import Derived.JoinedOf
import Derived.KernelRfl
set_option linter.all false
set_option linter.unusedSimpArgs false
set_option linter.unusedVariables false
set_option linter.unusedSectionVars false
namespace Go.Proofs.YtgoandblgcjleaaGreatDoor
open Go
set_option maxRecDepth 100000
theorem qxd:(fun (P:Program) (f:FuncId) (fn:Func) (s:ChangeSpec) (c:OpenClaim)=>((c.recurses==P.recurses f):Bool)) Tryz.prog 7 Tryz.f7 Rows.provenanceSourcesSpec Rows.provenanceSourcesRow=true:=by kernel_rfl
theorem qxe:(fun (P:Program) (f:FuncId) (fn:Func) (s:ChangeSpec) (c:OpenClaim)=>((c.named==P.varsNamed f):Bool)) Tryz.prog 7 Tryz.f7 Rows.provenanceSourcesSpec Rows.provenanceSourcesRow=true:=by kernel_rfl
end Go.Proofs.YtgoandblgcjleaaGreatDoor
