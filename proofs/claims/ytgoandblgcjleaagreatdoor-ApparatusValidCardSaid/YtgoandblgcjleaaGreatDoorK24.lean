import Derived.Test.YtgoandblgcjleaaGreatDoorRows
import Derived.JoinedOf
import Derived.KernelRfl
import Derived.Test.YtgoandblgcjleaaGreatDoorK0
import Derived.Test.YtgoandblgcjleaaGreatDoorK18
import Derived.Test.YtgoandblgcjleaaGreatDoorK19
import Derived.Test.YtgoandblgcjleaaGreatDoorK20
import Derived.Test.YtgoandblgcjleaaGreatDoorK21
import Derived.Test.YtgoandblgcjleaaGreatDoorK22
import Derived.Test.YtgoandblgcjleaaGreatDoorK23
set_option linter.all false
set_option linter.unusedSimpArgs false
set_option linter.unusedVariables false
set_option linter.unusedSectionVars false
namespace Go.Proofs.YtgoandblgcjleaaGreatDoor
open Go
set_option maxRecDepth 100000
theorem qzU:(fun (P:Program) (f:FuncId) (fn:Func) (s:ChangeSpec) (c:OpenClaim)=>(c.wf (OpenSpec.ofChange s):Bool)) Tryz.prog 11 Tryz.f11 Rows.apparatusValidSpec Rows.apparatusValidRow=true:=by kernel_rfl
theorem qzV:(fun (P:Program) (f:FuncId) (fn:Func) (s:ChangeSpec) (c:OpenClaim)=>(fn.params.all (P.readableRec ·):Bool)) Tryz.prog 11 Tryz.f11 Rows.apparatusValidSpec Rows.apparatusValidRow=true:=by kernel_rfl
theorem qzW:(fun (P:Program) (f:FuncId) (fn:Func) (s:ChangeSpec) (c:OpenClaim)=>(namedTie P c.named s.vars:Bool)) Tryz.prog 11 Tryz.f11 Rows.apparatusValidSpec Rows.apparatusValidRow=true:=by kernel_rfl
theorem qzX:(fun (P:Program) (f:FuncId) (fn:Func) (s:ChangeSpec) (c:OpenClaim)=>((c.stops== []):Bool)) Tryz.prog 11 Tryz.f11 Rows.apparatusValidSpec Rows.apparatusValidRow=true:=by kernel_rfl
theorem qzY:(fun (P:Program) (f:FuncId) (fn:Func) (s:ChangeSpec) (c:OpenClaim)=>((c.knobs== []):Bool)) Tryz.prog 11 Tryz.f11 Rows.apparatusValidSpec Rows.apparatusValidRow=true:=by kernel_rfl
theorem quL:(fun (P:Program) (f:FuncId) (fn:Func) (s:ChangeSpec) (c:OpenClaim)=>((c.maps==(fn.params.toList++s.plain.varTypes P).any (P.mapsRec ·)):Bool)) Tryz.prog 11 Tryz.f11 Rows.apparatusValidSpec Rows.apparatusValidRow=true:=by kernel_rfl
theorem quM:(fun (P:Program) (f:FuncId) (fn:Func) (s:ChangeSpec) (c:OpenClaim)=>((c.ifaces==(fn.params.toList++s.plain.varTypes P).any (P.ifacesRec ·)):Bool)) Tryz.prog 11 Tryz.f11 Rows.apparatusValidSpec Rows.apparatusValidRow=true:=by kernel_rfl
theorem quN:(fun (P:Program) (f:FuncId) (fn:Func) (s:ChangeSpec) (c:OpenClaim)=>((c.mapsOut==P.mapsAmong fn.resultTypes.toList):Bool)) Tryz.prog 11 Tryz.f11 Rows.apparatusValidSpec Rows.apparatusValidRow=true:=by kernel_rfl
theorem quO:(fun (P:Program) (f:FuncId) (fn:Func) (s:ChangeSpec) (c:OpenClaim)=>((c.loops==(fn.params.toList++s.plain.varTypes P).any (P.loopsFrom ·)):Bool)) Tryz.prog 11 Tryz.f11 Rows.apparatusValidSpec Rows.apparatusValidRow=true:=by kernel_rfl
theorem quP:(fun (P:Program) (f:FuncId) (fn:Func) (s:ChangeSpec) (c:OpenClaim)=>((c.wideKeys==(fn.params.toList++s.plain.varTypes P++fn.resultTypes.toList).any (P.wideKeysFrom ·)):Bool)) Tryz.prog 11 Tryz.f11 Rows.apparatusValidSpec Rows.apparatusValidRow=true:=by kernel_rfl
theorem quQ:(fun (P:Program) (f:FuncId) (fn:Func) (s:ChangeSpec) (c:OpenClaim)=>(s.vars.all (P.varReadable ·):Bool)) Tryz.prog 11 Tryz.f11 Rows.apparatusValidSpec Rows.apparatusValidRow=true:=by kernel_rfl
theorem quR:(fun (P:Program) (f:FuncId) (fn:Func) (s:ChangeSpec) (c:OpenClaim)=>(fn.resultTypes.all (fun t=>P.readableRec t&&decide (t<P.types.size)):Bool)) Tryz.prog 11 Tryz.f11 Rows.apparatusValidSpec Rows.apparatusValidRow=true:=by kernel_rfl
theorem quS:(fun (P:Program) (f:FuncId) (fn:Func) (s:ChangeSpec) (c:OpenClaim)=>((c.ifacesOut==fn.resultTypes.toList.any (P.ifacesRec ·)):Bool)) Tryz.prog 11 Tryz.f11 Rows.apparatusValidSpec Rows.apparatusValidRow=true:=by kernel_rfl
theorem quT:(fun (P:Program) (f:FuncId) (fn:Func) (s:ChangeSpec) (c:OpenClaim)=>((c.loopsOut==fn.resultTypes.toList.any (P.loopsFrom ·)):Bool)) Tryz.prog 11 Tryz.f11 Rows.apparatusValidSpec Rows.apparatusValidRow=true:=by kernel_rfl
theorem quU:(fun (P:Program) (f:FuncId) (fn:Func) (s:ChangeSpec) (c:OpenClaim)=>((c.plainKeys==P.plainKeys):Bool)) Tryz.prog 11 Tryz.f11 Rows.apparatusValidSpec Rows.apparatusValidRow=true:=by kernel_rfl
theorem quV:(fun (P:Program) (f:FuncId) (fn:Func) (s:ChangeSpec) (c:OpenClaim)=>(c.shortTexts.isNone:Bool)) Tryz.prog 11 Tryz.f11 Rows.apparatusValidSpec Rows.apparatusValidRow=true:=by kernel_rfl
theorem quY:(fun (P:Program) (f:FuncId) (fn:Func) (s:ChangeSpec) (c:OpenClaim)=>((c.kinds==(if c.domain.isEmpty then [] else fn.params.toList.map fun t=>match P.underlying t with|some (.int k)=>some k|_=>none)):Bool)) Tryz.prog 11 Tryz.f11 Rows.apparatusValidSpec Rows.apparatusValidRow=true:=by kernel_rfl
theorem quZ:(fun (P:Program) (f:FuncId) (fn:Func) (s:ChangeSpec) (c:OpenClaim)=>((c.pinned==c.pinnedBy):Bool)) Tryz.prog 11 Tryz.f11 Rows.apparatusValidSpec Rows.apparatusValidRow=true:=by kernel_rfl
theorem qu0:(fun (P:Program) (f:FuncId) (fn:Func) (s:ChangeSpec) (c:OpenClaim)=>((c.veiled==(fn.params.toList++s.plain.varTypes P++fn.resultTypes.toList).any (P.veiledRec ·)):Bool)) Tryz.prog 11 Tryz.f11 Rows.apparatusValidSpec Rows.apparatusValidRow=true:=by kernel_rfl
theorem qu1:(fun (P:Program) (f:FuncId) (fn:Func) (s:ChangeSpec) (c:OpenClaim)=>(c.veiledFits P fn.params.toList (fn.params.toList++s.plain.varTypes P++fn.resultTypes.toList):Bool)) Tryz.prog 11 Tryz.f11 Rows.apparatusValidSpec Rows.apparatusValidRow=true:=by kernel_rfl
theorem qv {a b:Bool} (h1:a=true) (h2:b=true):(a&&b)=true:=by rw [h1,h2];rfl
theorem qog:joinedFacts Tryz.prog 11 Tryz.f11 Rows.apparatusValidSpec Rows.apparatusValidRow=true:=by
 unfold joinedFacts
 refine qv ?_ (by exact qu1)
 refine qv ?_ (by exact qu0)
 refine qv ?_ (by exact quZ)
 refine qv ?_ (by exact quY)
 refine qv ?_ (by exact quX)
 refine qv ?_ (by exact quW)
 refine qv ?_ (by exact qDA)
 refine qv ?_ (by exact qDz)
 refine qv ?_ (by exact quV)
 refine qv ?_ (by exact quU)
 refine qv ?_ (by exact quT)
 refine qv ?_ (by exact quS)
 refine qv ?_ (by exact quR)
 refine qv ?_ (by exact quQ)
 refine qv ?_ (by exact quP)
 refine qv ?_ (by exact quO)
 refine qv ?_ (by exact quN)
 refine qv ?_ (by exact quM)
 refine qv ?_ (by exact quL)
 refine qv ?_ (by exact quK)
 refine qv ?_ (by exact quJ)
 refine qv ?_ (by exact quI)
 refine qv ?_ (by exact qzZ)
 refine qv ?_ (by exact wp8)
 refine qv ?_ (by exact qzY)
 refine qv ?_ (by exact wp6)
 refine qv ?_ (by exact qzX)
 refine qv ?_ (by exact qzW)
 refine qv ?_ (by exact qzV)
 refine qv ?_ (by exact wp2)
 refine qv ?_ (by exact wp1)
 exact qzU
end Go.Proofs.YtgoandblgcjleaaGreatDoor
