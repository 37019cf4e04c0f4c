import Derived.Test.YtiiegfkjmnoijaaGreatDoorRows
import Derived.Test.YtiiegfkjmnoijaaGreatDoorCards
import Derived.SevenTiedAt
import Derived.KernelRfl
set_option linter.all false
namespace Go.Proofs.YtiiegfkjmnoijaaGreatDoor
open Go
set_option maxRecDepth 100000
theorem qyI : Tryz.prog.mainIs = some (true, ("2b6f1044b5fc0f2fdfcb999de5c6a8f26267db8839d823472885d849d731633f" : String).toList) := by kernel_rfl
end Go.Proofs.YtiiegfkjmnoijaaGreatDoor
