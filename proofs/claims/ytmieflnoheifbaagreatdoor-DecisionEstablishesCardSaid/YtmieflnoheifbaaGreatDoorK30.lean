import Derived.Test.YtmieflnoheifbaaGreatDoorRows
import Derived.Test.YtmieflnoheifbaaGreatDoorCards
import Derived.SevenTiedAt
import Derived.KernelRfl
set_option linter.all false
namespace Go.Proofs.YtmieflnoheifbaaGreatDoor
open Go
set_option maxRecDepth 100000
theorem qAz : Tryz.prog.mainIs = some (true, ("b90e41abc26df8d1c76d7d1833fd69a9257b9afa957b7bd44dcf76d190361895" : String).toList) := by kernel_rfl
end Go.Proofs.YtmieflnoheifbaaGreatDoor
