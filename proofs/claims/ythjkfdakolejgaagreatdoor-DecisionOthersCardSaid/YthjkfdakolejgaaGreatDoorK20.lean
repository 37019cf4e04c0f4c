import Derived.Test.YthjkfdakolejgaaGreatDoorRows
import Derived.JoinedOf
import Derived.KernelRfl
set_option linter.all false
set_option linter.unusedSimpArgs false
set_option linter.unusedVariables false
set_option linter.unusedSectionVars false
namespace Go.Proofs.YthjkfdakolejgaaGreatDoor
open Go
set_option maxRecDepth 100000
theorem qF3:(fun (P:Program)=>(P.mayEnter:Bool)) Tryz.prog=true:=by kernel_rfl
end Go.Proofs.YthjkfdakolejgaaGreatDoor
