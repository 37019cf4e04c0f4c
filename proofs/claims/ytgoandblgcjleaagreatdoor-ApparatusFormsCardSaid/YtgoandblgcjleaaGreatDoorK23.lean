import Derived.Test.YtgoandblgcjleaaGreatDoorRows
import Derived.JoinedOf
import Derived.KernelRfl
import Derived.Test.YtgoandblgcjleaaGreatDoorK0
import Derived.Test.YtgoandblgcjleaaGreatDoorK17
import Derived.Test.YtgoandblgcjleaaGreatDoorK18
import Derived.Test.YtgoandblgcjleaaGreatDoorK19
import Derived.Test.YtgoandblgcjleaaGreatDoorK20
import Derived.Test.YtgoandblgcjleaaGreatDoorK21
import Derived.Test.YtgoandblgcjleaaGreatDoorK22
set_option linter.all false
set_option linter.unusedSimpArgs false
set_option linter.unusedVariables false
set_option linter.unusedSectionVars false
namespace Go.Proofs.YtgoandblgcjleaaGreatDoor
open Go
set_option maxRecDepth 100000
theorem qBy:(fun (P:Program) (f:FuncId) (fn:Func) (s:ChangeSpec) (c:OpenClaim)=>(c.wf (OpenSpec.ofChange s):Bool)) Tryz.prog 5 Tryz.f5 Rows.apparatusFormsSpec Rows.apparatusFormsRow=true:=by kernel_rfl
theorem qBz:(fun (P:Program) (f:FuncId) (fn:Func) (s:ChangeSpec) (c:OpenClaim)=>(fn.params.all (P.readableRec ·):Bool)) Tryz.prog 5 Tryz.f5 Rows.apparatusFormsSpec Rows.apparatusFormsRow=true:=by kernel_rfl
theorem qBA:(fun (P:Program) (f:FuncId) (fn:Func) (s:ChangeSpec) (c:OpenClaim)=>(namedTie P c.named s.vars:Bool)) Tryz.prog 5 Tryz.f5 Rows.apparatusFormsSpec Rows.apparatusFormsRow=true:=by kernel_rfl
theorem qBB:(fun (P:Program) (f:FuncId) (fn:Func) (s:ChangeSpec) (c:OpenClaim)=>((c.stops== []):Bool)) Tryz.prog 5 Tryz.f5 Rows.apparatusFormsSpec Rows.apparatusFormsRow=true:=by kernel_rfl
theorem qBC:(fun (P:Program) (f:FuncId) (fn:Func) (s:ChangeSpec) (c:OpenClaim)=>((c.knobs== []):Bool)) Tryz.prog 5 Tryz.f5 Rows.apparatusFormsSpec Rows.apparatusFormsRow=true:=by kernel_rfl
theorem qzg:(fun (P:Program) (f:FuncId) (fn:Func) (s:ChangeSpec) (c:OpenClaim)=>((c.maps==(fn.params.toList++s.plain.varTypes P).any (P.mapsRec ·)):Bool)) Tryz.prog 5 Tryz.f5 Rows.apparatusFormsSpec Rows.apparatusFormsRow=true:=by kernel_rfl
theorem qzh:(fun (P:Program) (f:FuncId) (fn:Func) (s:ChangeSpec) (c:OpenClaim)=>((c.ifaces==(fn.params.toList++s.plain.varTypes P).any (P.ifacesRec ·)):Bool)) Tryz.prog 5 Tryz.f5 Rows.apparatusFormsSpec Rows.apparatusFormsRow=true:=by kernel_rfl
theorem qzi:(fun (P:Program) (f:FuncId) (fn:Func) (s:ChangeSpec) (c:OpenClaim)=>((c.mapsOut==P.mapsAmong fn.resultTypes.toList):Bool)) Tryz.prog 5 Tryz.f5 Rows.apparatusFormsSpec Rows.apparatusFormsRow=true:=by kernel_rfl
theorem qzj:(fun (P:Program) (f:FuncId) (fn:Func) (s:ChangeSpec) (c:OpenClaim)=>((c.loops==(fn.params.toList++s.plain.varTypes P).any (P.loopsFrom ·)):Bool)) Tryz.prog 5 Tryz.f5 Rows.apparatusFormsSpec Rows.apparatusFormsRow=true:=by kernel_rfl
theorem qzk:(fun (P:Program) (f:FuncId) (fn:Func) (s:ChangeSpec) (c:OpenClaim)=>((c.wideKeys==(fn.params.toList++s.plain.varTypes P++fn.resultTypes.toList).any (P.wideKeysFrom ·)):Bool)) Tryz.prog 5 Tryz.f5 Rows.apparatusFormsSpec Rows.apparatusFormsRow=true:=by kernel_rfl
theorem qzl:(fun (P:Program) (f:FuncId) (fn:Func) (s:ChangeSpec) (c:OpenClaim)=>(s.vars.all (P.varReadable ·):Bool)) Tryz.prog 5 Tryz.f5 Rows.apparatusFormsSpec Rows.apparatusFormsRow=true:=by kernel_rfl
theorem qzm:(fun (P:Program) (f:FuncId) (fn:Func) (s:ChangeSpec) (c:OpenClaim)=>(fn.resultTypes.all (fun t=>P.readableRec t&&decide (t<P.types.size)):Bool)) Tryz.prog 5 Tryz.f5 Rows.apparatusFormsSpec Rows.apparatusFormsRow=true:=by kernel_rfl
theorem qzn:(fun (P:Program) (f:FuncId) (fn:Func) (s:ChangeSpec) (c:OpenClaim)=>((c.ifacesOut==fn.resultTypes.toList.any (P.ifacesRec ·)):Bool)) Tryz.prog 5 Tryz.f5 Rows.apparatusFormsSpec Rows.apparatusFormsRow=true:=by kernel_rfl
theorem qzo:(fun (P:Program) (f:FuncId) (fn:Func) (s:ChangeSpec) (c:OpenClaim)=>((c.loopsOut==fn.resultTypes.toList.any (P.loopsFrom ·)):Bool)) Tryz.prog 5 Tryz.f5 Rows.apparatusFormsSpec Rows.apparatusFormsRow=true:=by kernel_rfl
theorem qzp:(fun (P:Program) (f:FuncId) (fn:Func) (s:ChangeSpec) (c:OpenClaim)=>((c.plainKeys==P.plainKeys):Bool)) Tryz.prog 5 Tryz.f5 Rows.apparatusFormsSpec Rows.apparatusFormsRow=true:=by kernel_rfl
theorem qzq:(fun (P:Program) (f:FuncId) (fn:Func) (s:ChangeSpec) (c:OpenClaim)=>(c.shortTexts.isNone:Bool)) Tryz.prog 5 Tryz.f5 Rows.apparatusFormsSpec Rows.apparatusFormsRow=true:=by kernel_rfl
theorem qzt:(fun (P:Program) (f:FuncId) (fn:Func) (s:ChangeSpec) (c:OpenClaim)=>((c.kinds==(if c.domain.isEmpty then [] else fn.params.toList.map fun t=>match P.underlying t with|some (.int k)=>some k|_=>none)):Bool)) Tryz.prog 5 Tryz.f5 Rows.apparatusFormsSpec Rows.apparatusFormsRow=true:=by kernel_rfl
theorem qzu:(fun (P:Program) (f:FuncId) (fn:Func) (s:ChangeSpec) (c:OpenClaim)=>((c.pinned==c.pinnedBy):Bool)) Tryz.prog 5 Tryz.f5 Rows.apparatusFormsSpec Rows.apparatusFormsRow=true:=by kernel_rfl
theorem qzv:(fun (P:Program) (f:FuncId) (fn:Func) (s:ChangeSpec) (c:OpenClaim)=>((c.veiled==(fn.params.toList++s.plain.varTypes P++fn.resultTypes.toList).any (P.veiledRec ·)):Bool)) Tryz.prog 5 Tryz.f5 Rows.apparatusFormsSpec Rows.apparatusFormsRow=true:=by kernel_rfl
theorem qzw:(fun (P:Program) (f:FuncId) (fn:Func) (s:ChangeSpec) (c:OpenClaim)=>(c.veiledFits P fn.params.toList (fn.params.toList++s.plain.varTypes P++fn.resultTypes.toList):Bool)) Tryz.prog 5 Tryz.f5 Rows.apparatusFormsSpec Rows.apparatusFormsRow=true:=by kernel_rfl
theorem qw {a b:Bool} (h1:a=true) (h2:b=true):(a&&b)=true:=by rw [h1,h2];rfl
theorem qsH:joinedFacts Tryz.prog 5 Tryz.f5 Rows.apparatusFormsSpec Rows.apparatusFormsRow=true:=by
 unfold joinedFacts
 refine qw ?_ (by exact qzw)
 refine qw ?_ (by exact qzv)
 refine qw ?_ (by exact qzu)
 refine qw ?_ (by exact qzt)
 refine qw ?_ (by exact qzs)
 refine qw ?_ (by exact qzr)
 refine qw ?_ (by exact qCt)
 refine qw ?_ (by exact qCs)
 refine qw ?_ (by exact qzq)
 refine qw ?_ (by exact qzp)
 refine qw ?_ (by exact qzo)
 refine qw ?_ (by exact qzn)
 refine qw ?_ (by exact qzm)
 refine qw ?_ (by exact qzl)
 refine qw ?_ (by exact qzk)
 refine qw ?_ (by exact qzj)
 refine qw ?_ (by exact qzi)
 refine qw ?_ (by exact qzh)
 refine qw ?_ (by exact qzg)
 refine qw ?_ (by exact qzf)
 refine qw ?_ (by exact qze)
 refine qw ?_ (by exact qzd)
 refine qw ?_ (by exact qBD)
 refine qw ?_ (by exact wp8)
 refine qw ?_ (by exact qBC)
 refine qw ?_ (by exact wp6)
 refine qw ?_ (by exact qBB)
 refine qw ?_ (by exact qBA)
 refine qw ?_ (by exact qBz)
 refine qw ?_ (by exact wp2)
 refine qw ?_ (by exact wp1)
 exact qBy
end Go.Proofs.YtgoandblgcjleaaGreatDoor
