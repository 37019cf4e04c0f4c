import Derived.Test.YtgoandblgcjleaaGreatDoorRows
import Derived.JoinedOf
import Derived.KernelRfl
import Derived.Test.YtgoandblgcjleaaGreatDoorK0
import Derived.Test.YtgoandblgcjleaaGreatDoorK17
import Derived.Test.YtgoandblgcjleaaGreatDoorK18
import Derived.Test.YtgoandblgcjleaaGreatDoorK19
import Derived.Test.YtgoandblgcjleaaGreatDoorK20
import Derived.Test.YtgoandblgcjleaaGreatDoorK21
import Derived.Test.YtgoandblgcjleaaGreatDoorK22
set_option linter.all false
set_option linter.unusedSimpArgs false
set_option linter.unusedVariables false
set_option linter.unusedSectionVars false
namespace Go.Proofs.YtgoandblgcjleaaGreatDoor
open Go
set_option maxRecDepth 100000
theorem qA3:(fun (P:Program) (f:FuncId) (fn:Func) (s:ChangeSpec) (c:OpenClaim)=>(c.wf (OpenSpec.ofChange s):Bool)) Tryz.prog 9 Tryz.f9 Rows.apparatusReadingsSpec Rows.apparatusReadingsRow=true:=by kernel_rfl
theorem qA4:(fun (P:Program) (f:FuncId) (fn:Func) (s:ChangeSpec) (c:OpenClaim)=>(fn.params.all (P.readableRec ·):Bool)) Tryz.prog 9 Tryz.f9 Rows.apparatusReadingsSpec Rows.apparatusReadingsRow=true:=by kernel_rfl
theorem qA5:(fun (P:Program) (f:FuncId) (fn:Func) (s:ChangeSpec) (c:OpenClaim)=>(namedTie P c.named s.vars:Bool)) Tryz.prog 9 Tryz.f9 Rows.apparatusReadingsSpec Rows.apparatusReadingsRow=true:=by kernel_rfl
theorem qA6:(fun (P:Program) (f:FuncId) (fn:Func) (s:ChangeSpec) (c:OpenClaim)=>((c.stops== []):Bool)) Tryz.prog 9 Tryz.f9 Rows.apparatusReadingsSpec Rows.apparatusReadingsRow=true:=by kernel_rfl
theorem qA7:(fun (P:Program) (f:FuncId) (fn:Func) (s:ChangeSpec) (c:OpenClaim)=>((c.knobs== []):Bool)) Tryz.prog 9 Tryz.f9 Rows.apparatusReadingsSpec Rows.apparatusReadingsRow=true:=by kernel_rfl
theorem qyQ:(fun (P:Program) (f:FuncId) (fn:Func) (s:ChangeSpec) (c:OpenClaim)=>((c.maps==(fn.params.toList++s.plain.varTypes P).any (P.mapsRec ·)):Bool)) Tryz.prog 9 Tryz.f9 Rows.apparatusReadingsSpec Rows.apparatusReadingsRow=true:=by kernel_rfl
theorem qyR:(fun (P:Program) (f:FuncId) (fn:Func) (s:ChangeSpec) (c:OpenClaim)=>((c.ifaces==(fn.params.toList++s.plain.varTypes P).any (P.ifacesRec ·)):Bool)) Tryz.prog 9 Tryz.f9 Rows.apparatusReadingsSpec Rows.apparatusReadingsRow=true:=by kernel_rfl
theorem qyS:(fun (P:Program) (f:FuncId) (fn:Func) (s:ChangeSpec) (c:OpenClaim)=>((c.mapsOut==P.mapsAmong fn.resultTypes.toList):Bool)) Tryz.prog 9 Tryz.f9 Rows.apparatusReadingsSpec Rows.apparatusReadingsRow=true:=by kernel_rfl
theorem qyT:(fun (P:Program) (f:FuncId) (fn:Func) (s:ChangeSpec) (c:OpenClaim)=>((c.loops==(fn.params.toList++s.plain.varTypes P).any (P.loopsFrom ·)):Bool)) Tryz.prog 9 Tryz.f9 Rows.apparatusReadingsSpec Rows.apparatusReadingsRow=true:=by kernel_rfl
theorem qyU:(fun (P:Program) (f:FuncId) (fn:Func) (s:ChangeSpec) (c:OpenClaim)=>((c.wideKeys==(fn.params.toList++s.plain.varTypes P++fn.resultTypes.toList).any (P.wideKeysFrom ·)):Bool)) Tryz.prog 9 Tryz.f9 Rows.apparatusReadingsSpec Rows.apparatusReadingsRow=true:=by kernel_rfl
theorem qyV:(fun (P:Program) (f:FuncId) (fn:Func) (s:ChangeSpec) (c:OpenClaim)=>(s.vars.all (P.varReadable ·):Bool)) Tryz.prog 9 Tryz.f9 Rows.apparatusReadingsSpec Rows.apparatusReadingsRow=true:=by kernel_rfl
theorem qyW:(fun (P:Program) (f:FuncId) (fn:Func) (s:ChangeSpec) (c:OpenClaim)=>(fn.resultTypes.all (fun t=>P.readableRec t&&decide (t<P.types.size)):Bool)) Tryz.prog 9 Tryz.f9 Rows.apparatusReadingsSpec Rows.apparatusReadingsRow=true:=by kernel_rfl
theorem qyX:(fun (P:Program) (f:FuncId) (fn:Func) (s:ChangeSpec) (c:OpenClaim)=>((c.ifacesOut==fn.resultTypes.toList.any (P.ifacesRec ·)):Bool)) Tryz.prog 9 Tryz.f9 Rows.apparatusReadingsSpec Rows.apparatusReadingsRow=true:=by kernel_rfl
theorem qyY:(fun (P:Program) (f:FuncId) (fn:Func) (s:ChangeSpec) (c:OpenClaim)=>((c.loopsOut==fn.resultTypes.toList.any (P.loopsFrom ·)):Bool)) Tryz.prog 9 Tryz.f9 Rows.apparatusReadingsSpec Rows.apparatusReadingsRow=true:=by kernel_rfl
theorem qyZ:(fun (P:Program) (f:FuncId) (fn:Func) (s:ChangeSpec) (c:OpenClaim)=>((c.plainKeys==P.plainKeys):Bool)) Tryz.prog 9 Tryz.f9 Rows.apparatusReadingsSpec Rows.apparatusReadingsRow=true:=by kernel_rfl
theorem qy0:(fun (P:Program) (f:FuncId) (fn:Func) (s:ChangeSpec) (c:OpenClaim)=>(c.shortTexts.isNone:Bool)) Tryz.prog 9 Tryz.f9 Rows.apparatusReadingsSpec Rows.apparatusReadingsRow=true:=by kernel_rfl
theorem qy3:(fun (P:Program) (f:FuncId) (fn:Func) (s:ChangeSpec) (c:OpenClaim)=>((c.kinds==(if c.domain.isEmpty then [] else fn.params.toList.map fun t=>match P.underlying t with|some (.int k)=>some k|_=>none)):Bool)) Tryz.prog 9 Tryz.f9 Rows.apparatusReadingsSpec Rows.apparatusReadingsRow=true:=by kernel_rfl
theorem qy4:(fun (P:Program) (f:FuncId) (fn:Func) (s:ChangeSpec) (c:OpenClaim)=>((c.pinned==c.pinnedBy):Bool)) Tryz.prog 9 Tryz.f9 Rows.apparatusReadingsSpec Rows.apparatusReadingsRow=true:=by kernel_rfl
theorem qy5:(fun (P:Program) (f:FuncId) (fn:Func) (s:ChangeSpec) (c:OpenClaim)=>((c.veiled==(fn.params.toList++s.plain.varTypes P++fn.resultTypes.toList).any (P.veiledRec ·)):Bool)) Tryz.prog 9 Tryz.f9 Rows.apparatusReadingsSpec Rows.apparatusReadingsRow=true:=by kernel_rfl
theorem qy6:(fun (P:Program) (f:FuncId) (fn:Func) (s:ChangeSpec) (c:OpenClaim)=>(c.veiledFits P fn.params.toList (fn.params.toList++s.plain.varTypes P++fn.resultTypes.toList):Bool)) Tryz.prog 9 Tryz.f9 Rows.apparatusReadingsSpec Rows.apparatusReadingsRow=true:=by kernel_rfl
theorem qw {a b:Bool} (h1:a=true) (h2:b=true):(a&&b)=true:=by rw [h1,h2];rfl
theorem qsa:joinedFacts Tryz.prog 9 Tryz.f9 Rows.apparatusReadingsSpec Rows.apparatusReadingsRow=true:=by
 unfold joinedFacts
 refine qw ?_ (by exact qy6)
 refine qw ?_ (by exact qy5)
 refine qw ?_ (by exact qy4)
 refine qw ?_ (by exact qy3)
 refine qw ?_ (by exact qy2)
 refine qw ?_ (by exact qy1)
 refine qw ?_ (by exact qCZ)
 refine qw ?_ (by exact qCY)
 refine qw ?_ (by exact qy0)
 refine qw ?_ (by exact qyZ)
 refine qw ?_ (by exact qyY)
 refine qw ?_ (by exact qyX)
 refine qw ?_ (by exact qyW)
 refine qw ?_ (by exact qyV)
 refine qw ?_ (by exact qyU)
 refine qw ?_ (by exact qyT)
 refine qw ?_ (by exact qyS)
 refine qw ?_ (by exact qyR)
 refine qw ?_ (by exact qyQ)
 refine qw ?_ (by exact qyP)
 refine qw ?_ (by exact qyO)
 refine qw ?_ (by exact qyN)
 refine qw ?_ (by exact qA8)
 refine qw ?_ (by exact wp8)
 refine qw ?_ (by exact qA7)
 refine qw ?_ (by exact wp6)
 refine qw ?_ (by exact qA6)
 refine qw ?_ (by exact qA5)
 refine qw ?_ (by exact qA4)
 refine qw ?_ (by exact wp2)
 refine qw ?_ (by exact wp1)
 exact qA3
end Go.Proofs.YtgoandblgcjleaaGreatDoor
