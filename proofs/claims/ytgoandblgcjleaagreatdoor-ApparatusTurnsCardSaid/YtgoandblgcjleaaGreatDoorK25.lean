import Derived.Test.YtgoandblgcjleaaGreatDoorRows
import Derived.JoinedOf
import Derived.KernelRfl
import Derived.Test.YtgoandblgcjleaaGreatDoorK0
import Derived.Test.YtgoandblgcjleaaGreatDoorK19
import Derived.Test.YtgoandblgcjleaaGreatDoorK20
import Derived.Test.YtgoandblgcjleaaGreatDoorK21
import Derived.Test.YtgoandblgcjleaaGreatDoorK22
import Derived.Test.YtgoandblgcjleaaGreatDoorK23
import Derived.Test.YtgoandblgcjleaaGreatDoorK24
set_option linter.all false
set_option linter.unusedSimpArgs false
set_option linter.unusedVariables false
set_option linter.unusedSectionVars false
namespace Go.Proofs.YtgoandblgcjleaaGreatDoor
open Go
set_option maxRecDepth 100000
theorem qAE:(fun (P:Program) (f:FuncId) (fn:Func) (s:ChangeSpec) (c:OpenClaim)=>(c.wf (OpenSpec.ofChange s):Bool)) Tryz.prog 12 Tryz.f12 Rows.apparatusTurnsSpec Rows.apparatusTurnsRow=true:=by kernel_rfl
theorem qAF:(fun (P:Program) (f:FuncId) (fn:Func) (s:ChangeSpec) (c:OpenClaim)=>(fn.params.all (P.readableRec ·):Bool)) Tryz.prog 12 Tryz.f12 Rows.apparatusTurnsSpec Rows.apparatusTurnsRow=true:=by kernel_rfl
theorem qAG:(fun (P:Program) (f:FuncId) (fn:Func) (s:ChangeSpec) (c:OpenClaim)=>(namedTie P c.named s.vars:Bool)) Tryz.prog 12 Tryz.f12 Rows.apparatusTurnsSpec Rows.apparatusTurnsRow=true:=by kernel_rfl
theorem qAH:(fun (P:Program) (f:FuncId) (fn:Func) (s:ChangeSpec) (c:OpenClaim)=>((c.stops== []):Bool)) Tryz.prog 12 Tryz.f12 Rows.apparatusTurnsSpec Rows.apparatusTurnsRow=true:=by kernel_rfl
theorem qAI:(fun (P:Program) (f:FuncId) (fn:Func) (s:ChangeSpec) (c:OpenClaim)=>((c.knobs== []):Bool)) Tryz.prog 12 Tryz.f12 Rows.apparatusTurnsSpec Rows.apparatusTurnsRow=true:=by kernel_rfl
theorem qvw:(fun (P:Program) (f:FuncId) (fn:Func) (s:ChangeSpec) (c:OpenClaim)=>((c.maps==(fn.params.toList++s.plain.varTypes P).any (P.mapsRec ·)):Bool)) Tryz.prog 12 Tryz.f12 Rows.apparatusTurnsSpec Rows.apparatusTurnsRow=true:=by kernel_rfl
theorem qvx:(fun (P:Program) (f:FuncId) (fn:Func) (s:ChangeSpec) (c:OpenClaim)=>((c.ifaces==(fn.params.toList++s.plain.varTypes P).any (P.ifacesRec ·)):Bool)) Tryz.prog 12 Tryz.f12 Rows.apparatusTurnsSpec Rows.apparatusTurnsRow=true:=by kernel_rfl
theorem qvy:(fun (P:Program) (f:FuncId) (fn:Func) (s:ChangeSpec) (c:OpenClaim)=>((c.mapsOut==P.mapsAmong fn.resultTypes.toList):Bool)) Tryz.prog 12 Tryz.f12 Rows.apparatusTurnsSpec Rows.apparatusTurnsRow=true:=by kernel_rfl
theorem qvz:(fun (P:Program) (f:FuncId) (fn:Func) (s:ChangeSpec) (c:OpenClaim)=>((c.loops==(fn.params.toList++s.plain.varTypes P).any (P.loopsFrom ·)):Bool)) Tryz.prog 12 Tryz.f12 Rows.apparatusTurnsSpec Rows.apparatusTurnsRow=true:=by kernel_rfl
theorem qvA:(fun (P:Program) (f:FuncId) (fn:Func) (s:ChangeSpec) (c:OpenClaim)=>((c.wideKeys==(fn.params.toList++s.plain.varTypes P++fn.resultTypes.toList).any (P.wideKeysFrom ·)):Bool)) Tryz.prog 12 Tryz.f12 Rows.apparatusTurnsSpec Rows.apparatusTurnsRow=true:=by kernel_rfl
theorem qvB:(fun (P:Program) (f:FuncId) (fn:Func) (s:ChangeSpec) (c:OpenClaim)=>(s.vars.all (P.varReadable ·):Bool)) Tryz.prog 12 Tryz.f12 Rows.apparatusTurnsSpec Rows.apparatusTurnsRow=true:=by kernel_rfl
theorem qvC:(fun (P:Program) (f:FuncId) (fn:Func) (s:ChangeSpec) (c:OpenClaim)=>(fn.resultTypes.all (fun t=>P.readableRec t&&decide (t<P.types.size)):Bool)) Tryz.prog 12 Tryz.f12 Rows.apparatusTurnsSpec Rows.apparatusTurnsRow=true:=by kernel_rfl
theorem qvD:(fun (P:Program) (f:FuncId) (fn:Func) (s:ChangeSpec) (c:OpenClaim)=>((c.ifacesOut==fn.resultTypes.toList.any (P.ifacesRec ·)):Bool)) Tryz.prog 12 Tryz.f12 Rows.apparatusTurnsSpec Rows.apparatusTurnsRow=true:=by kernel_rfl
theorem qvE:(fun (P:Program) (f:FuncId) (fn:Func) (s:ChangeSpec) (c:OpenClaim)=>((c.loopsOut==fn.resultTypes.toList.any (P.loopsFrom ·)):Bool)) Tryz.prog 12 Tryz.f12 Rows.apparatusTurnsSpec Rows.apparatusTurnsRow=true:=by kernel_rfl
theorem qvF:(fun (P:Program) (f:FuncId) (fn:Func) (s:ChangeSpec) (c:OpenClaim)=>((c.plainKeys==P.plainKeys):Bool)) Tryz.prog 12 Tryz.f12 Rows.apparatusTurnsSpec Rows.apparatusTurnsRow=true:=by kernel_rfl
theorem qvG:(fun (P:Program) (f:FuncId) (fn:Func) (s:ChangeSpec) (c:OpenClaim)=>(c.shortTexts.isNone:Bool)) Tryz.prog 12 Tryz.f12 Rows.apparatusTurnsSpec Rows.apparatusTurnsRow=true:=by kernel_rfl
theorem qvJ:(fun (P:Program) (f:FuncId) (fn:Func) (s:ChangeSpec) (c:OpenClaim)=>((c.kinds==(if c.domain.isEmpty then [] else fn.params.toList.map fun t=>match P.underlying t with|some (.int k)=>some k|_=>none)):Bool)) Tryz.prog 12 Tryz.f12 Rows.apparatusTurnsSpec Rows.apparatusTurnsRow=true:=by kernel_rfl
theorem qvK:(fun (P:Program) (f:FuncId) (fn:Func) (s:ChangeSpec) (c:OpenClaim)=>((c.pinned==c.pinnedBy):Bool)) Tryz.prog 12 Tryz.f12 Rows.apparatusTurnsSpec Rows.apparatusTurnsRow=true:=by kernel_rfl
theorem qvL:(fun (P:Program) (f:FuncId) (fn:Func) (s:ChangeSpec) (c:OpenClaim)=>((c.veiled==(fn.params.toList++s.plain.varTypes P++fn.resultTypes.toList).any (P.veiledRec ·)):Bool)) Tryz.prog 12 Tryz.f12 Rows.apparatusTurnsSpec Rows.apparatusTurnsRow=true:=by kernel_rfl
theorem qvM:(fun (P:Program) (f:FuncId) (fn:Func) (s:ChangeSpec) (c:OpenClaim)=>(c.veiledFits P fn.params.toList (fn.params.toList++s.plain.varTypes P++fn.resultTypes.toList):Bool)) Tryz.prog 12 Tryz.f12 Rows.apparatusTurnsSpec Rows.apparatusTurnsRow=true:=by kernel_rfl
theorem qq{a b:Bool}(h1:a=true)(h2:b=true):(a&&b)=true:=by rw[h1,h2];rfl
theorem qoT:joinedFacts Tryz.prog 12 Tryz.f12 Rows.apparatusTurnsSpec Rows.apparatusTurnsRow=true:=by
 unfold joinedFacts;refine qq ?_ (by exact qvM);refine qq ?_ (by exact qvL);refine qq ?_ (by exact qvK);refine qq ?_ (by exact qvJ);refine qq ?_ (by exact qvI);refine qq ?_ (by exact qvH);refine qq ?_ (by exact qEr);refine qq ?_ (by exact qEq);refine qq ?_ (by exact qvG);refine qq ?_ (by exact qvF);refine qq ?_ (by exact qvE);refine qq ?_ (by exact qvD);refine qq ?_ (by exact qvC);refine qq ?_ (by exact qvB);refine qq ?_ (by exact qvA);refine qq ?_ (by exact qvz);refine qq ?_ (by exact qvy);refine qq ?_ (by exact qvx);refine qq ?_ (by exact qvw);refine qq ?_ (by exact qvv);refine qq ?_ (by exact qvu);refine qq ?_ (by exact qvt);refine qq ?_ (by exact qAJ);refine qq ?_ (by exact wp8);refine qq ?_ (by exact qAI);refine qq ?_ (by exact wp6);refine qq ?_ (by exact qAH);refine qq ?_ (by exact qAG);refine qq ?_ (by exact qAF);refine qq ?_ (by exact wp2);refine qq ?_ (by exact wp1);exact qAE
end Go.Proofs.YtgoandblgcjleaaGreatDoor
