import Derived.Test.YthjkfdakolejgaaGreatDoorRows
import Derived.Test.YthjkfdakolejgaaGreatDoorCards
import Derived.SevenTiedAt
import Derived.KernelRfl
set_option linter.all false
set_option linter.unusedSimpArgs false
set_option linter.unusedVariables false
set_option linter.unusedSectionVars false
namespace Go.Proofs.YthjkfdakolejgaaGreatDoor
open Go
set_option maxRecDepth 100000
theorem qAs : Tryz.prog.mainIs = some (true, ("942ca39e7cf3f56327097f24453ecf7185bc942cd5933235c1fb0bc4a55cb1b2" : String).toList) := by kernel_rfl
end Go.Proofs.YthjkfdakolejgaaGreatDoor
