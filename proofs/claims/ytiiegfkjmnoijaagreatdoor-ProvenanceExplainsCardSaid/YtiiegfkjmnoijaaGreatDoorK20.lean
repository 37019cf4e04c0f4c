import Derived.Test.YtiiegfkjmnoijaaGreatDoorRows
import Derived.JoinedOf
import Derived.KernelRfl
set_option linter.all false
namespace Go.Proofs.YtiiegfkjmnoijaaGreatDoor
open Go
set_option maxRecDepth 100000
theorem wp6:(λ(P:Program)=>((P.stops== []):Bool)) Tryz.prog=true:=by kernel_rfl
theorem wp8:(λ(P:Program)=>((P.stopKnobs== []):Bool)) Tryz.prog=true:=by kernel_rfl
theorem qD3:(λ(P:Program)=>(P.stopsHeard:Bool)) Tryz.prog=true:=by kernel_rfl
end Go.Proofs.YtiiegfkjmnoijaaGreatDoor
