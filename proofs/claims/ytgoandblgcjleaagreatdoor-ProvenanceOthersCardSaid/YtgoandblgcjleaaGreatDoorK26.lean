import Derived.Test.YtgoandblgcjleaaGreatDoorRows
import Derived.Test.YtgoandblgcjleaaGreatDoorCards
import Derived.SevenTiedAt
import Derived.KernelRfl
set_option linter.all false
set_option linter.unusedSimpArgs false
set_option linter.unusedVariables false
set_option linter.unusedSectionVars false
namespace Go.Proofs.YtgoandblgcjleaaGreatDoor
open Go
set_option maxRecDepth 100000
theorem qvP : Tryz.prog.mainIs = some (true, ("8739f5461bf58501e1b5d34f3b1f88a75f07197be07fb419a6468becb202cd7c" : String).toList) := by kernel_rfl
end Go.Proofs.YtgoandblgcjleaaGreatDoor
