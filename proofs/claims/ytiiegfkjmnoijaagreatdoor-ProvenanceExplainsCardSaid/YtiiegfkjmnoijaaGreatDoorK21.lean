import Derived.Test.YtiiegfkjmnoijaaGreatDoorRows
import Derived.JoinedOf
import Derived.KernelRfl
set_option linter.all false
namespace Go.Proofs.YtiiegfkjmnoijaaGreatDoor
open Go
set_option maxRecDepth 100000
theorem qD4:(λ(P:Program)=>(P.mayEnter:Bool)) Tryz.prog=true:=by kernel_rfl
end Go.Proofs.YtiiegfkjmnoijaaGreatDoor
