import Derived.Test.YthjkfdakolejgaaGreatDoorRows
import Derived.JoinedOf
import Derived.KernelRfl
set_option linter.all false
set_option linter.unusedSimpArgs false
set_option linter.unusedVariables false
set_option linter.unusedSectionVars false
namespace Go.Proofs.YthjkfdakolejgaaGreatDoor
open Go
set_option maxRecDepth 100000
theorem qBL:(fun (P:Program) (f:FuncId) (fn:Func) (s:ChangeSpec) (c:OpenClaim)=>((P.make==some c.make):Bool)) Tryz.prog 7 Tryz.f7 Rows.decisionOthersSpec Rows.decisionOthersRow=true:=by kernel_rfl
end Go.Proofs.YthjkfdakolejgaaGreatDoor
