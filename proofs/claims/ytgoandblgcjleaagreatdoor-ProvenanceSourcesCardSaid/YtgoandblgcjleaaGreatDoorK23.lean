import Derived.Test.YtgoandblgcjleaaGreatDoorRows
import Derived.JoinedOf
import Derived.KernelRfl
import Derived.Test.YtgoandblgcjleaaGreatDoorK0
import Derived.Test.YtgoandblgcjleaaGreatDoorK17
import Derived.Test.YtgoandblgcjleaaGreatDoorK18
import Derived.Test.YtgoandblgcjleaaGreatDoorK19
import Derived.Test.YtgoandblgcjleaaGreatDoorK20
import Derived.Test.YtgoandblgcjleaaGreatDoorK21
import Derived.Test.YtgoandblgcjleaaGreatDoorK22
set_option linter.all false
set_option linter.unusedSimpArgs false
set_option linter.unusedVariables false
set_option linter.unusedSectionVars false
namespace Go.Proofs.YtgoandblgcjleaaGreatDoor
open Go
set_option maxRecDepth 100000
theorem qy5:(fun (P:Program) (f:FuncId) (fn:Func) (s:ChangeSpec) (c:OpenClaim)=>(c.wf (OpenSpec.ofChange s):Bool)) Tryz.prog 7 Tryz.f7 Rows.provenanceSourcesSpec Rows.provenanceSourcesRow=true:=by kernel_rfl
theorem qy6:(fun (P:Program) (f:FuncId) (fn:Func) (s:ChangeSpec) (c:OpenClaim)=>(fn.params.all (P.readableRec ·):Bool)) Tryz.prog 7 Tryz.f7 Rows.provenanceSourcesSpec Rows.provenanceSourcesRow=true:=by kernel_rfl
theorem qy7:(fun (P:Program) (f:FuncId) (fn:Func) (s:ChangeSpec) (c:OpenClaim)=>(namedTie P c.named s.vars:Bool)) Tryz.prog 7 Tryz.f7 Rows.provenanceSourcesSpec Rows.provenanceSourcesRow=true:=by kernel_rfl
theorem qy8:(fun (P:Program) (f:FuncId) (fn:Func) (s:ChangeSpec) (c:OpenClaim)=>((c.stops== []):Bool)) Tryz.prog 7 Tryz.f7 Rows.provenanceSourcesSpec Rows.provenanceSourcesRow=true:=by kernel_rfl
theorem qy9:(fun (P:Program) (f:FuncId) (fn:Func) (s:ChangeSpec) (c:OpenClaim)=>((c.knobs== []):Bool)) Tryz.prog 7 Tryz.f7 Rows.provenanceSourcesSpec Rows.provenanceSourcesRow=true:=by kernel_rfl
theorem qxf:(fun (P:Program) (f:FuncId) (fn:Func) (s:ChangeSpec) (c:OpenClaim)=>((c.maps==(fn.params.toList++s.plain.varTypes P).any (P.mapsRec ·)):Bool)) Tryz.prog 7 Tryz.f7 Rows.provenanceSourcesSpec Rows.provenanceSourcesRow=true:=by kernel_rfl
theorem qxg:(fun (P:Program) (f:FuncId) (fn:Func) (s:ChangeSpec) (c:OpenClaim)=>((c.ifaces==(fn.params.toList++s.plain.varTypes P).any (P.ifacesRec ·)):Bool)) Tryz.prog 7 Tryz.f7 Rows.provenanceSourcesSpec Rows.provenanceSourcesRow=true:=by kernel_rfl
theorem qxh:(fun (P:Program) (f:FuncId) (fn:Func) (s:ChangeSpec) (c:OpenClaim)=>((c.mapsOut==P.mapsAmong fn.resultTypes.toList):Bool)) Tryz.prog 7 Tryz.f7 Rows.provenanceSourcesSpec Rows.provenanceSourcesRow=true:=by kernel_rfl
theorem qxi:(fun (P:Program) (f:FuncId) (fn:Func) (s:ChangeSpec) (c:OpenClaim)=>((c.loops==(fn.params.toList++s.plain.varTypes P).any (P.loopsFrom ·)):Bool)) Tryz.prog 7 Tryz.f7 Rows.provenanceSourcesSpec Rows.provenanceSourcesRow=true:=by kernel_rfl
theorem qxj:(fun (P:Program) (f:FuncId) (fn:Func) (s:ChangeSpec) (c:OpenClaim)=>((c.wideKeys==(fn.params.toList++s.plain.varTypes P++fn.resultTypes.toList).any (P.wideKeysFrom ·)):Bool)) Tryz.prog 7 Tryz.f7 Rows.provenanceSourcesSpec Rows.provenanceSourcesRow=true:=by kernel_rfl
theorem qxk:(fun (P:Program) (f:FuncId) (fn:Func) (s:ChangeSpec) (c:OpenClaim)=>(s.vars.all (P.varReadable ·):Bool)) Tryz.prog 7 Tryz.f7 Rows.provenanceSourcesSpec Rows.provenanceSourcesRow=true:=by kernel_rfl
theorem qxl:(fun (P:Program) (f:FuncId) (fn:Func) (s:ChangeSpec) (c:OpenClaim)=>(fn.resultTypes.all (fun t=>P.readableRec t&&decide (t<P.types.size)):Bool)) Tryz.prog 7 Tryz.f7 Rows.provenanceSourcesSpec Rows.provenanceSourcesRow=true:=by kernel_rfl
theorem qxm:(fun (P:Program) (f:FuncId) (fn:Func) (s:ChangeSpec) (c:OpenClaim)=>((c.ifacesOut==fn.resultTypes.toList.any (P.ifacesRec ·)):Bool)) Tryz.prog 7 Tryz.f7 Rows.provenanceSourcesSpec Rows.provenanceSourcesRow=true:=by kernel_rfl
theorem qxn:(fun (P:Program) (f:FuncId) (fn:Func) (s:ChangeSpec) (c:OpenClaim)=>((c.loopsOut==fn.resultTypes.toList.any (P.loopsFrom ·)):Bool)) Tryz.prog 7 Tryz.f7 Rows.provenanceSourcesSpec Rows.provenanceSourcesRow=true:=by kernel_rfl
theorem qxo:(fun (P:Program) (f:FuncId) (fn:Func) (s:ChangeSpec) (c:OpenClaim)=>((c.plainKeys==P.plainKeys):Bool)) Tryz.prog 7 Tryz.f7 Rows.provenanceSourcesSpec Rows.provenanceSourcesRow=true:=by kernel_rfl
theorem qxp:(fun (P:Program) (f:FuncId) (fn:Func) (s:ChangeSpec) (c:OpenClaim)=>(c.shortTexts.isNone:Bool)) Tryz.prog 7 Tryz.f7 Rows.provenanceSourcesSpec Rows.provenanceSourcesRow=true:=by kernel_rfl
theorem qxs:(fun (P:Program) (f:FuncId) (fn:Func) (s:ChangeSpec) (c:OpenClaim)=>((c.kinds==(if c.domain.isEmpty then [] else fn.params.toList.map fun t=>match P.underlying t with|some (.int k)=>some k|_=>none)):Bool)) Tryz.prog 7 Tryz.f7 Rows.provenanceSourcesSpec Rows.provenanceSourcesRow=true:=by kernel_rfl
theorem qxt:(fun (P:Program) (f:FuncId) (fn:Func) (s:ChangeSpec) (c:OpenClaim)=>((c.pinned==c.pinnedBy):Bool)) Tryz.prog 7 Tryz.f7 Rows.provenanceSourcesSpec Rows.provenanceSourcesRow=true:=by kernel_rfl
theorem qxu:(fun (P:Program) (f:FuncId) (fn:Func) (s:ChangeSpec) (c:OpenClaim)=>((c.veiled==(fn.params.toList++s.plain.varTypes P++fn.resultTypes.toList).any (P.veiledRec ·)):Bool)) Tryz.prog 7 Tryz.f7 Rows.provenanceSourcesSpec Rows.provenanceSourcesRow=true:=by kernel_rfl
theorem qxv:(fun (P:Program) (f:FuncId) (fn:Func) (s:ChangeSpec) (c:OpenClaim)=>(c.veiledFits P fn.params.toList (fn.params.toList++s.plain.varTypes P++fn.resultTypes.toList):Bool)) Tryz.prog 7 Tryz.f7 Rows.provenanceSourcesSpec Rows.provenanceSourcesRow=true:=by kernel_rfl
theorem qs{a b:Bool}(h1:a=true)(h2:b=true):(a&&b)=true:=by rw[h1,h2];rfl
theorem qqL:joinedFacts Tryz.prog 7 Tryz.f7 Rows.provenanceSourcesSpec Rows.provenanceSourcesRow=true:=by
 unfold joinedFacts;refine qs ?_ (by exact qxv);refine qs ?_ (by exact qxu);refine qs ?_ (by exact qxt);refine qs ?_ (by exact qxs);refine qs ?_ (by exact qxr);refine qs ?_ (by exact qxq);refine qs ?_ (by exact qAM);refine qs ?_ (by exact qAL);refine qs ?_ (by exact qxp);refine qs ?_ (by exact qxo);refine qs ?_ (by exact qxn);refine qs ?_ (by exact qxm);refine qs ?_ (by exact qxl);refine qs ?_ (by exact qxk);refine qs ?_ (by exact qxj);refine qs ?_ (by exact qxi);refine qs ?_ (by exact qxh);refine qs ?_ (by exact qxg);refine qs ?_ (by exact qxf);refine qs ?_ (by exact qxe);refine qs ?_ (by exact qxd);refine qs ?_ (by exact qxc);refine qs ?_ (by exact qza);refine qs ?_ (by exact wp8);refine qs ?_ (by exact qy9);refine qs ?_ (by exact wp6);refine qs ?_ (by exact qy8);refine qs ?_ (by exact qy7);refine qs ?_ (by exact qy6);refine qs ?_ (by exact wp2);refine qs ?_ (by exact wp1);exact qy5
end Go.Proofs.YtgoandblgcjleaaGreatDoor
