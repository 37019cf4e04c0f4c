import Derived.Test.YtgoandblgcjleaaGreatDoorRows
import Derived.JoinedOf
import Derived.KernelRfl
import Derived.Test.YtgoandblgcjleaaGreatDoorK0
import Derived.Test.YtgoandblgcjleaaGreatDoorK20
import Derived.Test.YtgoandblgcjleaaGreatDoorK21
import Derived.Test.YtgoandblgcjleaaGreatDoorK22
import Derived.Test.YtgoandblgcjleaaGreatDoorK23
import Derived.Test.YtgoandblgcjleaaGreatDoorK24
import Derived.Test.YtgoandblgcjleaaGreatDoorK25
set_option linter.all false
set_option linter.unusedSimpArgs false
set_option linter.unusedVariables false
set_option linter.unusedSectionVars false
namespace Go.Proofs.YtgoandblgcjleaaGreatDoor
open Go
set_option maxRecDepth 100000
theorem qBD:(fun (P:Program) (f:FuncId) (fn:Func) (s:ChangeSpec) (c:OpenClaim)=>(c.wf (OpenSpec.ofChange s):Bool)) Tryz.prog 4 Tryz.f4 Rows.apparatusEntriesSpec Rows.apparatusEntriesRow=true:=by kernel_rfl
theorem qBE:(fun (P:Program) (f:FuncId) (fn:Func) (s:ChangeSpec) (c:OpenClaim)=>(fn.params.all (P.readableRec ·):Bool)) Tryz.prog 4 Tryz.f4 Rows.apparatusEntriesSpec Rows.apparatusEntriesRow=true:=by kernel_rfl
theorem qBF:(fun (P:Program) (f:FuncId) (fn:Func) (s:ChangeSpec) (c:OpenClaim)=>(namedTie P c.named s.vars:Bool)) Tryz.prog 4 Tryz.f4 Rows.apparatusEntriesSpec Rows.apparatusEntriesRow=true:=by kernel_rfl
theorem qBG:(fun (P:Program) (f:FuncId) (fn:Func) (s:ChangeSpec) (c:OpenClaim)=>((c.stops== []):Bool)) Tryz.prog 4 Tryz.f4 Rows.apparatusEntriesSpec Rows.apparatusEntriesRow=true:=by kernel_rfl
theorem qBH:(fun (P:Program) (f:FuncId) (fn:Func) (s:ChangeSpec) (c:OpenClaim)=>((c.knobs== []):Bool)) Tryz.prog 4 Tryz.f4 Rows.apparatusEntriesSpec Rows.apparatusEntriesRow=true:=by kernel_rfl
theorem qzC:(fun (P:Program) (f:FuncId) (fn:Func) (s:ChangeSpec) (c:OpenClaim)=>((c.maps==(fn.params.toList++s.plain.varTypes P).any (P.mapsRec ·)):Bool)) Tryz.prog 4 Tryz.f4 Rows.apparatusEntriesSpec Rows.apparatusEntriesRow=true:=by kernel_rfl
theorem qzD:(fun (P:Program) (f:FuncId) (fn:Func) (s:ChangeSpec) (c:OpenClaim)=>((c.ifaces==(fn.params.toList++s.plain.varTypes P).any (P.ifacesRec ·)):Bool)) Tryz.prog 4 Tryz.f4 Rows.apparatusEntriesSpec Rows.apparatusEntriesRow=true:=by kernel_rfl
theorem qzE:(fun (P:Program) (f:FuncId) (fn:Func) (s:ChangeSpec) (c:OpenClaim)=>((c.mapsOut==P.mapsAmong fn.resultTypes.toList):Bool)) Tryz.prog 4 Tryz.f4 Rows.apparatusEntriesSpec Rows.apparatusEntriesRow=true:=by kernel_rfl
theorem qzF:(fun (P:Program) (f:FuncId) (fn:Func) (s:ChangeSpec) (c:OpenClaim)=>((c.loops==(fn.params.toList++s.plain.varTypes P).any (P.loopsFrom ·)):Bool)) Tryz.prog 4 Tryz.f4 Rows.apparatusEntriesSpec Rows.apparatusEntriesRow=true:=by kernel_rfl
theorem qzG:(fun (P:Program) (f:FuncId) (fn:Func) (s:ChangeSpec) (c:OpenClaim)=>((c.wideKeys==(fn.params.toList++s.plain.varTypes P++fn.resultTypes.toList).any (P.wideKeysFrom ·)):Bool)) Tryz.prog 4 Tryz.f4 Rows.apparatusEntriesSpec Rows.apparatusEntriesRow=true:=by kernel_rfl
theorem qzH:(fun (P:Program) (f:FuncId) (fn:Func) (s:ChangeSpec) (c:OpenClaim)=>(s.vars.all (P.varReadable ·):Bool)) Tryz.prog 4 Tryz.f4 Rows.apparatusEntriesSpec Rows.apparatusEntriesRow=true:=by kernel_rfl
theorem qzI:(fun (P:Program) (f:FuncId) (fn:Func) (s:ChangeSpec) (c:OpenClaim)=>(fn.resultTypes.all (fun t=>P.readableRec t&&decide (t<P.types.size)):Bool)) Tryz.prog 4 Tryz.f4 Rows.apparatusEntriesSpec Rows.apparatusEntriesRow=true:=by kernel_rfl
theorem qzJ:(fun (P:Program) (f:FuncId) (fn:Func) (s:ChangeSpec) (c:OpenClaim)=>((c.ifacesOut==fn.resultTypes.toList.any (P.ifacesRec ·)):Bool)) Tryz.prog 4 Tryz.f4 Rows.apparatusEntriesSpec Rows.apparatusEntriesRow=true:=by kernel_rfl
theorem qzK:(fun (P:Program) (f:FuncId) (fn:Func) (s:ChangeSpec) (c:OpenClaim)=>((c.loopsOut==fn.resultTypes.toList.any (P.loopsFrom ·)):Bool)) Tryz.prog 4 Tryz.f4 Rows.apparatusEntriesSpec Rows.apparatusEntriesRow=true:=by kernel_rfl
theorem qzL:(fun (P:Program) (f:FuncId) (fn:Func) (s:ChangeSpec) (c:OpenClaim)=>((c.plainKeys==P.plainKeys):Bool)) Tryz.prog 4 Tryz.f4 Rows.apparatusEntriesSpec Rows.apparatusEntriesRow=true:=by kernel_rfl
theorem qzM:(fun (P:Program) (f:FuncId) (fn:Func) (s:ChangeSpec) (c:OpenClaim)=>(c.shortTexts.isNone:Bool)) Tryz.prog 4 Tryz.f4 Rows.apparatusEntriesSpec Rows.apparatusEntriesRow=true:=by kernel_rfl
theorem qzP:(fun (P:Program) (f:FuncId) (fn:Func) (s:ChangeSpec) (c:OpenClaim)=>((c.kinds==(if c.domain.isEmpty then [] else fn.params.toList.map fun t=>match P.underlying t with|some (.int k)=>some k|_=>none)):Bool)) Tryz.prog 4 Tryz.f4 Rows.apparatusEntriesSpec Rows.apparatusEntriesRow=true:=by kernel_rfl
theorem qzQ:(fun (P:Program) (f:FuncId) (fn:Func) (s:ChangeSpec) (c:OpenClaim)=>((c.pinned==c.pinnedBy):Bool)) Tryz.prog 4 Tryz.f4 Rows.apparatusEntriesSpec Rows.apparatusEntriesRow=true:=by kernel_rfl
theorem qzR:(fun (P:Program) (f:FuncId) (fn:Func) (s:ChangeSpec) (c:OpenClaim)=>((c.veiled==(fn.params.toList++s.plain.varTypes P++fn.resultTypes.toList).any (P.veiledRec ·)):Bool)) Tryz.prog 4 Tryz.f4 Rows.apparatusEntriesSpec Rows.apparatusEntriesRow=true:=by kernel_rfl
theorem qzS:(fun (P:Program) (f:FuncId) (fn:Func) (s:ChangeSpec) (c:OpenClaim)=>(c.veiledFits P fn.params.toList (fn.params.toList++s.plain.varTypes P++fn.resultTypes.toList):Bool)) Tryz.prog 4 Tryz.f4 Rows.apparatusEntriesSpec Rows.apparatusEntriesRow=true:=by kernel_rfl
theorem qt{a b:Bool}(h1:a=true)(h2:b=true):(a&&b)=true:=by rw[h1,h2];rfl
theorem qsD:joinedFacts Tryz.prog 4 Tryz.f4 Rows.apparatusEntriesSpec Rows.apparatusEntriesRow=true:=by
 unfold joinedFacts;refine qt ?_ (by exact qzS);refine qt ?_ (by exact qzR);refine qt ?_ (by exact qzQ);refine qt ?_ (by exact qzP);refine qt ?_ (by exact qzO);refine qt ?_ (by exact qzN);refine qt ?_ (by exact qDL);refine qt ?_ (by exact qDK);refine qt ?_ (by exact qzM);refine qt ?_ (by exact qzL);refine qt ?_ (by exact qzK);refine qt ?_ (by exact qzJ);refine qt ?_ (by exact qzI);refine qt ?_ (by exact qzH);refine qt ?_ (by exact qzG);refine qt ?_ (by exact qzF);refine qt ?_ (by exact qzE);refine qt ?_ (by exact qzD);refine qt ?_ (by exact qzC);refine qt ?_ (by exact qzB);refine qt ?_ (by exact qzA);refine qt ?_ (by exact qzz);refine qt ?_ (by exact qBI);refine qt ?_ (by exact wp8);refine qt ?_ (by exact qBH);refine qt ?_ (by exact wp6);refine qt ?_ (by exact qBG);refine qt ?_ (by exact qBF);refine qt ?_ (by exact qBE);refine qt ?_ (by exact wp2);refine qt ?_ (by exact wp1);exact qBD
end Go.Proofs.YtgoandblgcjleaaGreatDoor
