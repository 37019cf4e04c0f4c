import Derived.Test.YtmieflnoheifbaaGreatDoorRows
import Derived.Test.YtmieflnoheifbaaGreatDoorCards
import Derived.SevenTiedAt
import Derived.KernelRfl
set_option linter.all false
namespace Go.Proofs.YtmieflnoheifbaaGreatDoor
open Go
set_option maxRecDepth 100000
theorem qDB:false=Rows.decisionEstablishesRow.goesBy Tryz.prog:=by kernel_rfl
end Go.Proofs.YtmieflnoheifbaaGreatDoor
