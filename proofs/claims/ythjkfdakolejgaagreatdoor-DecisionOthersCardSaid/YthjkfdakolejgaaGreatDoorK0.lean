import Derived.Test.YthjkfdakolejgaaGreatDoorRows
import Derived.JoinedOf
import Derived.KernelRfl
set_option linter.all false
set_option linter.unusedSimpArgs false
set_option linter.unusedVariables false
set_option linter.unusedSectionVars false
namespace Go.Proofs.YthjkfdakolejgaaGreatDoor
open Go
set_option maxRecDepth 100000
theorem wp1:(fun (P:Program)=>(laidOutB P:Bool)) Tryz.prog=true:=by kernel_rfl
theorem wp2:(fun (P:Program)=>(mapsRowed P:Bool)) Tryz.prog=true:=by kernel_rfl
end Go.Proofs.YthjkfdakolejgaaGreatDoor
