import Derived.Test.YtgoandblgcjleaaGreatDoorRows
import Derived.JoinedOf
import Derived.KernelRfl
import Derived.Test.YtgoandblgcjleaaGreatDoorK0
import Derived.Test.YtgoandblgcjleaaGreatDoorK17
import Derived.Test.YtgoandblgcjleaaGreatDoorK18
import Derived.Test.YtgoandblgcjleaaGreatDoorK31
import Derived.Test.YtgoandblgcjleaaGreatDoorK32
import Derived.Test.YtgoandblgcjleaaGreatDoorK33
import Derived.Test.YtgoandblgcjleaaGreatDoorK34
set_option linter.all false
set_option linter.unusedSimpArgs false
set_option linter.unusedVariables false
set_option linter.unusedSectionVars false
namespace Go.Proofs.YtgoandblgcjleaaGreatDoor
open Go
set_option maxRecDepth 100000
theorem qBE:(fun (P:Program) (f:FuncId) (fn:Func) (s:ChangeSpec) (c:OpenClaim)=>(c.wf (OpenSpec.ofChange s):Bool)) Tryz.prog 8 Tryz.f8 Rows.apparatusLayersSpec Rows.apparatusLayersRow=true:=by kernel_rfl
theorem qBF:(fun (P:Program) (f:FuncId) (fn:Func) (s:ChangeSpec) (c:OpenClaim)=>(fn.params.all (P.readableRec ·):Bool)) Tryz.prog 8 Tryz.f8 Rows.apparatusLayersSpec Rows.apparatusLayersRow=true:=by kernel_rfl
theorem qBG:(fun (P:Program) (f:FuncId) (fn:Func) (s:ChangeSpec) (c:OpenClaim)=>(namedTie P c.named s.vars:Bool)) Tryz.prog 8 Tryz.f8 Rows.apparatusLayersSpec Rows.apparatusLayersRow=true:=by kernel_rfl
theorem qBH:(fun (P:Program) (f:FuncId) (fn:Func) (s:ChangeSpec) (c:OpenClaim)=>((c.stops== []):Bool)) Tryz.prog 8 Tryz.f8 Rows.apparatusLayersSpec Rows.apparatusLayersRow=true:=by kernel_rfl
theorem qBI:(fun (P:Program) (f:FuncId) (fn:Func) (s:ChangeSpec) (c:OpenClaim)=>((c.knobs== []):Bool)) Tryz.prog 8 Tryz.f8 Rows.apparatusLayersSpec Rows.apparatusLayersRow=true:=by kernel_rfl
theorem qzA:(fun (P:Program) (f:FuncId) (fn:Func) (s:ChangeSpec) (c:OpenClaim)=>((c.maps==(fn.params.toList++s.plain.varTypes P).any (P.mapsRec ·)):Bool)) Tryz.prog 8 Tryz.f8 Rows.apparatusLayersSpec Rows.apparatusLayersRow=true:=by kernel_rfl
theorem qzB:(fun (P:Program) (f:FuncId) (fn:Func) (s:ChangeSpec) (c:OpenClaim)=>((c.ifaces==(fn.params.toList++s.plain.varTypes P).any (P.ifacesRec ·)):Bool)) Tryz.prog 8 Tryz.f8 Rows.apparatusLayersSpec Rows.apparatusLayersRow=true:=by kernel_rfl
theorem qzC:(fun (P:Program) (f:FuncId) (fn:Func) (s:ChangeSpec) (c:OpenClaim)=>((c.mapsOut==P.mapsAmong fn.resultTypes.toList):Bool)) Tryz.prog 8 Tryz.f8 Rows.apparatusLayersSpec Rows.apparatusLayersRow=true:=by kernel_rfl
theorem qzD:(fun (P:Program) (f:FuncId) (fn:Func) (s:ChangeSpec) (c:OpenClaim)=>((c.loops==(fn.params.toList++s.plain.varTypes P).any (P.loopsFrom ·)):Bool)) Tryz.prog 8 Tryz.f8 Rows.apparatusLayersSpec Rows.apparatusLayersRow=true:=by kernel_rfl
theorem qzE:(fun (P:Program) (f:FuncId) (fn:Func) (s:ChangeSpec) (c:OpenClaim)=>((c.wideKeys==(fn.params.toList++s.plain.varTypes P++fn.resultTypes.toList).any (P.wideKeysFrom ·)):Bool)) Tryz.prog 8 Tryz.f8 Rows.apparatusLayersSpec Rows.apparatusLayersRow=true:=by kernel_rfl
theorem qzF:(fun (P:Program) (f:FuncId) (fn:Func) (s:ChangeSpec) (c:OpenClaim)=>(s.vars.all (P.varReadable ·):Bool)) Tryz.prog 8 Tryz.f8 Rows.apparatusLayersSpec Rows.apparatusLayersRow=true:=by kernel_rfl
theorem qzG:(fun (P:Program) (f:FuncId) (fn:Func) (s:ChangeSpec) (c:OpenClaim)=>(fn.resultTypes.all (fun t=>P.readableRec t&&decide (t<P.types.size)):Bool)) Tryz.prog 8 Tryz.f8 Rows.apparatusLayersSpec Rows.apparatusLayersRow=true:=by kernel_rfl
theorem qzH:(fun (P:Program) (f:FuncId) (fn:Func) (s:ChangeSpec) (c:OpenClaim)=>((c.ifacesOut==fn.resultTypes.toList.any (P.ifacesRec ·)):Bool)) Tryz.prog 8 Tryz.f8 Rows.apparatusLayersSpec Rows.apparatusLayersRow=true:=by kernel_rfl
theorem qzI:(fun (P:Program) (f:FuncId) (fn:Func) (s:ChangeSpec) (c:OpenClaim)=>((c.loopsOut==fn.resultTypes.toList.any (P.loopsFrom ·)):Bool)) Tryz.prog 8 Tryz.f8 Rows.apparatusLayersSpec Rows.apparatusLayersRow=true:=by kernel_rfl
theorem qzJ:(fun (P:Program) (f:FuncId) (fn:Func) (s:ChangeSpec) (c:OpenClaim)=>((c.plainKeys==P.plainKeys):Bool)) Tryz.prog 8 Tryz.f8 Rows.apparatusLayersSpec Rows.apparatusLayersRow=true:=by kernel_rfl
theorem qzK:(fun (P:Program) (f:FuncId) (fn:Func) (s:ChangeSpec) (c:OpenClaim)=>(c.shortTexts.isNone:Bool)) Tryz.prog 8 Tryz.f8 Rows.apparatusLayersSpec Rows.apparatusLayersRow=true:=by kernel_rfl
theorem qzN:(fun (P:Program) (f:FuncId) (fn:Func) (s:ChangeSpec) (c:OpenClaim)=>((c.kinds==(if c.domain.isEmpty then [] else fn.params.toList.map fun t=>match P.underlying t with|some (.int k)=>some k|_=>none)):Bool)) Tryz.prog 8 Tryz.f8 Rows.apparatusLayersSpec Rows.apparatusLayersRow=true:=by kernel_rfl
theorem qzO:(fun (P:Program) (f:FuncId) (fn:Func) (s:ChangeSpec) (c:OpenClaim)=>((c.pinned==c.pinnedBy):Bool)) Tryz.prog 8 Tryz.f8 Rows.apparatusLayersSpec Rows.apparatusLayersRow=true:=by kernel_rfl
theorem qzP:(fun (P:Program) (f:FuncId) (fn:Func) (s:ChangeSpec) (c:OpenClaim)=>((c.veiled==(fn.params.toList++s.plain.varTypes P++fn.resultTypes.toList).any (P.veiledRec ·)):Bool)) Tryz.prog 8 Tryz.f8 Rows.apparatusLayersSpec Rows.apparatusLayersRow=true:=by kernel_rfl
theorem qzQ:(fun (P:Program) (f:FuncId) (fn:Func) (s:ChangeSpec) (c:OpenClaim)=>(c.veiledFits P fn.params.toList (fn.params.toList++s.plain.varTypes P++fn.resultTypes.toList):Bool)) Tryz.prog 8 Tryz.f8 Rows.apparatusLayersSpec Rows.apparatusLayersRow=true:=by kernel_rfl
theorem qx {a b:Bool} (h1:a=true) (h2:b=true):(a&&b)=true:=by rw [h1,h2];rfl
theorem qsI:joinedFacts Tryz.prog 8 Tryz.f8 Rows.apparatusLayersSpec Rows.apparatusLayersRow=true:=by
 unfold joinedFacts
 refine qx ?_ (by exact qzQ)
 refine qx ?_ (by exact qzP)
 refine qx ?_ (by exact qzO)
 refine qx ?_ (by exact qzN)
 refine qx ?_ (by exact qzM)
 refine qx ?_ (by exact qzL)
 refine qx ?_ (by exact qCt)
 refine qx ?_ (by exact qCs)
 refine qx ?_ (by exact qzK)
 refine qx ?_ (by exact qzJ)
 refine qx ?_ (by exact qzI)
 refine qx ?_ (by exact qzH)
 refine qx ?_ (by exact qzG)
 refine qx ?_ (by exact qzF)
 refine qx ?_ (by exact qzE)
 refine qx ?_ (by exact qzD)
 refine qx ?_ (by exact qzC)
 refine qx ?_ (by exact qzB)
 refine qx ?_ (by exact qzA)
 refine qx ?_ (by exact qzz)
 refine qx ?_ (by exact qzy)
 refine qx ?_ (by exact qzx)
 refine qx ?_ (by exact qBJ)
 refine qx ?_ (by exact wp8)
 refine qx ?_ (by exact qBI)
 refine qx ?_ (by exact wp6)
 refine qx ?_ (by exact qBH)
 refine qx ?_ (by exact qBG)
 refine qx ?_ (by exact qBF)
 refine qx ?_ (by exact wp2)
 refine qx ?_ (by exact wp1)
 exact qBE
end Go.Proofs.YtgoandblgcjleaaGreatDoor
