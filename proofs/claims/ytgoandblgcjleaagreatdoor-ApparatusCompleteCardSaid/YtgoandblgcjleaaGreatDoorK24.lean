import Derived.Test.YtgoandblgcjleaaGreatDoorRows
import Derived.JoinedOf
import Derived.KernelRfl
import Derived.Test.YtgoandblgcjleaaGreatDoorK0
import Derived.Test.YtgoandblgcjleaaGreatDoorK18
import Derived.Test.YtgoandblgcjleaaGreatDoorK19
import Derived.Test.YtgoandblgcjleaaGreatDoorK20
import Derived.Test.YtgoandblgcjleaaGreatDoorK21
import Derived.Test.YtgoandblgcjleaaGreatDoorK22
import Derived.Test.YtgoandblgcjleaaGreatDoorK23
set_option linter.all false
set_option linter.unusedSimpArgs false
set_option linter.unusedVariables false
set_option linter.unusedSectionVars false
namespace Go.Proofs.YtgoandblgcjleaaGreatDoor
open Go
set_option maxRecDepth 100000
theorem qAl:(fun (P:Program) (f:FuncId) (fn:Func) (s:ChangeSpec) (c:OpenClaim)=>(c.wf (OpenSpec.ofChange s):Bool)) Tryz.prog 10 Tryz.f10 Rows.apparatusCompleteSpec Rows.apparatusCompleteRow=true:=by kernel_rfl
theorem qAm:(fun (P:Program) (f:FuncId) (fn:Func) (s:ChangeSpec) (c:OpenClaim)=>(fn.params.all (P.readableRec ·):Bool)) Tryz.prog 10 Tryz.f10 Rows.apparatusCompleteSpec Rows.apparatusCompleteRow=true:=by kernel_rfl
theorem qAn:(fun (P:Program) (f:FuncId) (fn:Func) (s:ChangeSpec) (c:OpenClaim)=>(namedTie P c.named s.vars:Bool)) Tryz.prog 10 Tryz.f10 Rows.apparatusCompleteSpec Rows.apparatusCompleteRow=true:=by kernel_rfl
theorem qAo:(fun (P:Program) (f:FuncId) (fn:Func) (s:ChangeSpec) (c:OpenClaim)=>((c.stops== []):Bool)) Tryz.prog 10 Tryz.f10 Rows.apparatusCompleteSpec Rows.apparatusCompleteRow=true:=by kernel_rfl
theorem qAp:(fun (P:Program) (f:FuncId) (fn:Func) (s:ChangeSpec) (c:OpenClaim)=>((c.knobs== []):Bool)) Tryz.prog 10 Tryz.f10 Rows.apparatusCompleteSpec Rows.apparatusCompleteRow=true:=by kernel_rfl
theorem qvg:(fun (P:Program) (f:FuncId) (fn:Func) (s:ChangeSpec) (c:OpenClaim)=>((c.maps==(fn.params.toList++s.plain.varTypes P).any (P.mapsRec ·)):Bool)) Tryz.prog 10 Tryz.f10 Rows.apparatusCompleteSpec Rows.apparatusCompleteRow=true:=by kernel_rfl
theorem qvh:(fun (P:Program) (f:FuncId) (fn:Func) (s:ChangeSpec) (c:OpenClaim)=>((c.ifaces==(fn.params.toList++s.plain.varTypes P).any (P.ifacesRec ·)):Bool)) Tryz.prog 10 Tryz.f10 Rows.apparatusCompleteSpec Rows.apparatusCompleteRow=true:=by kernel_rfl
theorem qvi:(fun (P:Program) (f:FuncId) (fn:Func) (s:ChangeSpec) (c:OpenClaim)=>((c.mapsOut==P.mapsAmong fn.resultTypes.toList):Bool)) Tryz.prog 10 Tryz.f10 Rows.apparatusCompleteSpec Rows.apparatusCompleteRow=true:=by kernel_rfl
theorem qvj:(fun (P:Program) (f:FuncId) (fn:Func) (s:ChangeSpec) (c:OpenClaim)=>((c.loops==(fn.params.toList++s.plain.varTypes P).any (P.loopsFrom ·)):Bool)) Tryz.prog 10 Tryz.f10 Rows.apparatusCompleteSpec Rows.apparatusCompleteRow=true:=by kernel_rfl
theorem qvk:(fun (P:Program) (f:FuncId) (fn:Func) (s:ChangeSpec) (c:OpenClaim)=>((c.wideKeys==(fn.params.toList++s.plain.varTypes P++fn.resultTypes.toList).any (P.wideKeysFrom ·)):Bool)) Tryz.prog 10 Tryz.f10 Rows.apparatusCompleteSpec Rows.apparatusCompleteRow=true:=by kernel_rfl
theorem qvl:(fun (P:Program) (f:FuncId) (fn:Func) (s:ChangeSpec) (c:OpenClaim)=>(s.vars.all (P.varReadable ·):Bool)) Tryz.prog 10 Tryz.f10 Rows.apparatusCompleteSpec Rows.apparatusCompleteRow=true:=by kernel_rfl
theorem qvm:(fun (P:Program) (f:FuncId) (fn:Func) (s:ChangeSpec) (c:OpenClaim)=>(fn.resultTypes.all (fun t=>P.readableRec t&&decide (t<P.types.size)):Bool)) Tryz.prog 10 Tryz.f10 Rows.apparatusCompleteSpec Rows.apparatusCompleteRow=true:=by kernel_rfl
theorem qvn:(fun (P:Program) (f:FuncId) (fn:Func) (s:ChangeSpec) (c:OpenClaim)=>((c.ifacesOut==fn.resultTypes.toList.any (P.ifacesRec ·)):Bool)) Tryz.prog 10 Tryz.f10 Rows.apparatusCompleteSpec Rows.apparatusCompleteRow=true:=by kernel_rfl
theorem qvo:(fun (P:Program) (f:FuncId) (fn:Func) (s:ChangeSpec) (c:OpenClaim)=>((c.loopsOut==fn.resultTypes.toList.any (P.loopsFrom ·)):Bool)) Tryz.prog 10 Tryz.f10 Rows.apparatusCompleteSpec Rows.apparatusCompleteRow=true:=by kernel_rfl
theorem qvp:(fun (P:Program) (f:FuncId) (fn:Func) (s:ChangeSpec) (c:OpenClaim)=>((c.plainKeys==P.plainKeys):Bool)) Tryz.prog 10 Tryz.f10 Rows.apparatusCompleteSpec Rows.apparatusCompleteRow=true:=by kernel_rfl
theorem qvq:(fun (P:Program) (f:FuncId) (fn:Func) (s:ChangeSpec) (c:OpenClaim)=>(c.shortTexts.isNone:Bool)) Tryz.prog 10 Tryz.f10 Rows.apparatusCompleteSpec Rows.apparatusCompleteRow=true:=by kernel_rfl
theorem qvt:(fun (P:Program) (f:FuncId) (fn:Func) (s:ChangeSpec) (c:OpenClaim)=>((c.kinds==(if c.domain.isEmpty then [] else fn.params.toList.map fun t=>match P.underlying t with|some (.int k)=>some k|_=>none)):Bool)) Tryz.prog 10 Tryz.f10 Rows.apparatusCompleteSpec Rows.apparatusCompleteRow=true:=by kernel_rfl
theorem qvu:(fun (P:Program) (f:FuncId) (fn:Func) (s:ChangeSpec) (c:OpenClaim)=>((c.pinned==c.pinnedBy):Bool)) Tryz.prog 10 Tryz.f10 Rows.apparatusCompleteSpec Rows.apparatusCompleteRow=true:=by kernel_rfl
theorem qvv:(fun (P:Program) (f:FuncId) (fn:Func) (s:ChangeSpec) (c:OpenClaim)=>((c.veiled==(fn.params.toList++s.plain.varTypes P++fn.resultTypes.toList).any (P.veiledRec ·)):Bool)) Tryz.prog 10 Tryz.f10 Rows.apparatusCompleteSpec Rows.apparatusCompleteRow=true:=by kernel_rfl
theorem qvw:(fun (P:Program) (f:FuncId) (fn:Func) (s:ChangeSpec) (c:OpenClaim)=>(c.veiledFits P fn.params.toList (fn.params.toList++s.plain.varTypes P++fn.resultTypes.toList):Bool)) Tryz.prog 10 Tryz.f10 Rows.apparatusCompleteSpec Rows.apparatusCompleteRow=true:=by kernel_rfl
theorem qv {a b:Bool} (h1:a=true) (h2:b=true):(a&&b)=true:=by rw [h1,h2];rfl
theorem qoQ:joinedFacts Tryz.prog 10 Tryz.f10 Rows.apparatusCompleteSpec Rows.apparatusCompleteRow=true:=by
 unfold joinedFacts
 refine qv ?_ (by exact qvw)
 refine qv ?_ (by exact qvv)
 refine qv ?_ (by exact qvu)
 refine qv ?_ (by exact qvt)
 refine qv ?_ (by exact qvs)
 refine qv ?_ (by exact qvr)
 refine qv ?_ (by exact qD7)
 refine qv ?_ (by exact qD6)
 refine qv ?_ (by exact qvq)
 refine qv ?_ (by exact qvp)
 refine qv ?_ (by exact qvo)
 refine qv ?_ (by exact qvn)
 refine qv ?_ (by exact qvm)
 refine qv ?_ (by exact qvl)
 refine qv ?_ (by exact qvk)
 refine qv ?_ (by exact qvj)
 refine qv ?_ (by exact qvi)
 refine qv ?_ (by exact qvh)
 refine qv ?_ (by exact qvg)
 refine qv ?_ (by exact qvf)
 refine qv ?_ (by exact qve)
 refine qv ?_ (by exact qvd)
 refine qv ?_ (by exact qAq)
 refine qv ?_ (by exact wp8)
 refine qv ?_ (by exact qAp)
 refine qv ?_ (by exact wp6)
 refine qv ?_ (by exact qAo)
 refine qv ?_ (by exact qAn)
 refine qv ?_ (by exact qAm)
 refine qv ?_ (by exact wp2)
 refine qv ?_ (by exact wp1)
 exact qAl
end Go.Proofs.YtgoandblgcjleaaGreatDoor
