import Derived.Test.YtgoandblgcjleaaGreatDoorRows
import Derived.JoinedOf
import Derived.KernelRfl
import Derived.Test.YtgoandblgcjleaaGreatDoorK0
import Derived.Test.YtgoandblgcjleaaGreatDoorK18
import Derived.Test.YtgoandblgcjleaaGreatDoorK19
import Derived.Test.YtgoandblgcjleaaGreatDoorK20
import Derived.Test.YtgoandblgcjleaaGreatDoorK21
import Derived.Test.YtgoandblgcjleaaGreatDoorK22
import Derived.Test.YtgoandblgcjleaaGreatDoorK23
set_option linter.all false
set_option linter.unusedSimpArgs false
set_option linter.unusedVariables false
set_option linter.unusedSectionVars false
namespace Go.Proofs.YtgoandblgcjleaaGreatDoor
open Go
set_option maxRecDepth 100000
theorem qyC:(fun (P:Program) (f:FuncId) (fn:Func) (s:ChangeSpec) (c:OpenClaim)=>(c.wf (OpenSpec.ofChange s):Bool)) Tryz.prog 3 Tryz.f3 Rows.provenanceOthersSpec Rows.provenanceOthersRow=true:=by kernel_rfl
theorem qyD:(fun (P:Program) (f:FuncId) (fn:Func) (s:ChangeSpec) (c:OpenClaim)=>(fn.params.all (P.readableRec ·):Bool)) Tryz.prog 3 Tryz.f3 Rows.provenanceOthersSpec Rows.provenanceOthersRow=true:=by kernel_rfl
theorem qyE:(fun (P:Program) (f:FuncId) (fn:Func) (s:ChangeSpec) (c:OpenClaim)=>(namedTie P c.named s.vars:Bool)) Tryz.prog 3 Tryz.f3 Rows.provenanceOthersSpec Rows.provenanceOthersRow=true:=by kernel_rfl
theorem qyF:(fun (P:Program) (f:FuncId) (fn:Func) (s:ChangeSpec) (c:OpenClaim)=>((c.stops== []):Bool)) Tryz.prog 3 Tryz.f3 Rows.provenanceOthersSpec Rows.provenanceOthersRow=true:=by kernel_rfl
theorem qyG:(fun (P:Program) (f:FuncId) (fn:Func) (s:ChangeSpec) (c:OpenClaim)=>((c.knobs== []):Bool)) Tryz.prog 3 Tryz.f3 Rows.provenanceOthersSpec Rows.provenanceOthersRow=true:=by kernel_rfl
theorem qwJ:(fun (P:Program) (f:FuncId) (fn:Func) (s:ChangeSpec) (c:OpenClaim)=>((c.maps==(fn.params.toList++s.plain.varTypes P).any (P.mapsRec ·)):Bool)) Tryz.prog 3 Tryz.f3 Rows.provenanceOthersSpec Rows.provenanceOthersRow=true:=by kernel_rfl
theorem qwK:(fun (P:Program) (f:FuncId) (fn:Func) (s:ChangeSpec) (c:OpenClaim)=>((c.ifaces==(fn.params.toList++s.plain.varTypes P).any (P.ifacesRec ·)):Bool)) Tryz.prog 3 Tryz.f3 Rows.provenanceOthersSpec Rows.provenanceOthersRow=true:=by kernel_rfl
theorem qwL:(fun (P:Program) (f:FuncId) (fn:Func) (s:ChangeSpec) (c:OpenClaim)=>((c.mapsOut==P.mapsAmong fn.resultTypes.toList):Bool)) Tryz.prog 3 Tryz.f3 Rows.provenanceOthersSpec Rows.provenanceOthersRow=true:=by kernel_rfl
theorem qwM:(fun (P:Program) (f:FuncId) (fn:Func) (s:ChangeSpec) (c:OpenClaim)=>((c.loops==(fn.params.toList++s.plain.varTypes P).any (P.loopsFrom ·)):Bool)) Tryz.prog 3 Tryz.f3 Rows.provenanceOthersSpec Rows.provenanceOthersRow=true:=by kernel_rfl
theorem qwN:(fun (P:Program) (f:FuncId) (fn:Func) (s:ChangeSpec) (c:OpenClaim)=>((c.wideKeys==(fn.params.toList++s.plain.varTypes P++fn.resultTypes.toList).any (P.wideKeysFrom ·)):Bool)) Tryz.prog 3 Tryz.f3 Rows.provenanceOthersSpec Rows.provenanceOthersRow=true:=by kernel_rfl
theorem qwO:(fun (P:Program) (f:FuncId) (fn:Func) (s:ChangeSpec) (c:OpenClaim)=>(s.vars.all (P.varReadable ·):Bool)) Tryz.prog 3 Tryz.f3 Rows.provenanceOthersSpec Rows.provenanceOthersRow=true:=by kernel_rfl
theorem qwP:(fun (P:Program) (f:FuncId) (fn:Func) (s:ChangeSpec) (c:OpenClaim)=>(fn.resultTypes.all (fun t=>P.readableRec t&&decide (t<P.types.size)):Bool)) Tryz.prog 3 Tryz.f3 Rows.provenanceOthersSpec Rows.provenanceOthersRow=true:=by kernel_rfl
theorem qwQ:(fun (P:Program) (f:FuncId) (fn:Func) (s:ChangeSpec) (c:OpenClaim)=>((c.ifacesOut==fn.resultTypes.toList.any (P.ifacesRec ·)):Bool)) Tryz.prog 3 Tryz.f3 Rows.provenanceOthersSpec Rows.provenanceOthersRow=true:=by kernel_rfl
theorem qwR:(fun (P:Program) (f:FuncId) (fn:Func) (s:ChangeSpec) (c:OpenClaim)=>((c.loopsOut==fn.resultTypes.toList.any (P.loopsFrom ·)):Bool)) Tryz.prog 3 Tryz.f3 Rows.provenanceOthersSpec Rows.provenanceOthersRow=true:=by kernel_rfl
theorem qwS:(fun (P:Program) (f:FuncId) (fn:Func) (s:ChangeSpec) (c:OpenClaim)=>((c.plainKeys==P.plainKeys):Bool)) Tryz.prog 3 Tryz.f3 Rows.provenanceOthersSpec Rows.provenanceOthersRow=true:=by kernel_rfl
theorem qwT:(fun (P:Program) (f:FuncId) (fn:Func) (s:ChangeSpec) (c:OpenClaim)=>(c.shortTexts.isNone:Bool)) Tryz.prog 3 Tryz.f3 Rows.provenanceOthersSpec Rows.provenanceOthersRow=true:=by kernel_rfl
theorem qwW:(fun (P:Program) (f:FuncId) (fn:Func) (s:ChangeSpec) (c:OpenClaim)=>((c.kinds==(if c.domain.isEmpty then [] else fn.params.toList.map fun t=>match P.underlying t with|some (.int k)=>some k|_=>none)):Bool)) Tryz.prog 3 Tryz.f3 Rows.provenanceOthersSpec Rows.provenanceOthersRow=true:=by kernel_rfl
theorem qwX:(fun (P:Program) (f:FuncId) (fn:Func) (s:ChangeSpec) (c:OpenClaim)=>((c.pinned==c.pinnedBy):Bool)) Tryz.prog 3 Tryz.f3 Rows.provenanceOthersSpec Rows.provenanceOthersRow=true:=by kernel_rfl
theorem qwY:(fun (P:Program) (f:FuncId) (fn:Func) (s:ChangeSpec) (c:OpenClaim)=>((c.veiled==(fn.params.toList++s.plain.varTypes P++fn.resultTypes.toList).any (P.veiledRec ·)):Bool)) Tryz.prog 3 Tryz.f3 Rows.provenanceOthersSpec Rows.provenanceOthersRow=true:=by kernel_rfl
theorem qwZ:(fun (P:Program) (f:FuncId) (fn:Func) (s:ChangeSpec) (c:OpenClaim)=>(c.veiledFits P fn.params.toList (fn.params.toList++s.plain.varTypes P++fn.resultTypes.toList):Bool)) Tryz.prog 3 Tryz.f3 Rows.provenanceOthersSpec Rows.provenanceOthersRow=true:=by kernel_rfl
theorem qs{a b:Bool}(h1:a=true)(h2:b=true):(a&&b)=true:=by rw[h1,h2];rfl
theorem qqs:joinedFacts Tryz.prog 3 Tryz.f3 Rows.provenanceOthersSpec Rows.provenanceOthersRow=true:=by
 unfold joinedFacts;refine qs ?_ (by exact qwZ);refine qs ?_ (by exact qwY);refine qs ?_ (by exact qwX);refine qs ?_ (by exact qwW);refine qs ?_ (by exact qwV);refine qs ?_ (by exact qwU);refine qs ?_ (by exact qAg);refine qs ?_ (by exact qAf);refine qs ?_ (by exact qwT);refine qs ?_ (by exact qwS);refine qs ?_ (by exact qwR);refine qs ?_ (by exact qwQ);refine qs ?_ (by exact qwP);refine qs ?_ (by exact qwO);refine qs ?_ (by exact qwN);refine qs ?_ (by exact qwM);refine qs ?_ (by exact qwL);refine qs ?_ (by exact qwK);refine qs ?_ (by exact qwJ);refine qs ?_ (by exact qwI);refine qs ?_ (by exact qwH);refine qs ?_ (by exact qwG);refine qs ?_ (by exact qyH);refine qs ?_ (by exact wp8);refine qs ?_ (by exact qyG);refine qs ?_ (by exact wp6);refine qs ?_ (by exact qyF);refine qs ?_ (by exact qyE);refine qs ?_ (by exact qyD);refine qs ?_ (by exact wp2);refine qs ?_ (by exact wp1);exact qyC
end Go.Proofs.YtgoandblgcjleaaGreatDoor
