import Derived.Test.YthjkfdakolejgaaGreatDoorRows
import Derived.JoinedOf
import Derived.KernelRfl
import Derived.Test.YthjkfdakolejgaaGreatDoorK0
import Derived.Test.YthjkfdakolejgaaGreatDoorK19
import Derived.Test.YthjkfdakolejgaaGreatDoorK20
import Derived.Test.YthjkfdakolejgaaGreatDoorK21
import Derived.Test.YthjkfdakolejgaaGreatDoorK22
import Derived.Test.YthjkfdakolejgaaGreatDoorK23
import Derived.Test.YthjkfdakolejgaaGreatDoorK24
set_option linter.all false
set_option linter.unusedSimpArgs false
set_option linter.unusedVariables false
set_option linter.unusedSectionVars false
namespace Go.Proofs.YthjkfdakolejgaaGreatDoor
open Go
set_option maxRecDepth 100000
theorem qDs:(fun (P:Program) (f:FuncId) (fn:Func) (s:ChangeSpec) (c:OpenClaim)=>(c.wf (OpenSpec.ofChange s):Bool)) Tryz.prog 8 Tryz.f8 Rows.decisionCommonSpec Rows.decisionCommonRow=true:=by kernel_rfl
theorem qDt:(fun (P:Program) (f:FuncId) (fn:Func) (s:ChangeSpec) (c:OpenClaim)=>(fn.params.all (P.readableRec ·):Bool)) Tryz.prog 8 Tryz.f8 Rows.decisionCommonSpec Rows.decisionCommonRow=true:=by kernel_rfl
theorem qDu:(fun (P:Program) (f:FuncId) (fn:Func) (s:ChangeSpec) (c:OpenClaim)=>(namedTie P c.named s.vars:Bool)) Tryz.prog 8 Tryz.f8 Rows.decisionCommonSpec Rows.decisionCommonRow=true:=by kernel_rfl
theorem qDv:(fun (P:Program) (f:FuncId) (fn:Func) (s:ChangeSpec) (c:OpenClaim)=>((c.stops== []):Bool)) Tryz.prog 8 Tryz.f8 Rows.decisionCommonSpec Rows.decisionCommonRow=true:=by kernel_rfl
theorem qDw:(fun (P:Program) (f:FuncId) (fn:Func) (s:ChangeSpec) (c:OpenClaim)=>((c.knobs== []):Bool)) Tryz.prog 8 Tryz.f8 Rows.decisionCommonSpec Rows.decisionCommonRow=true:=by kernel_rfl
theorem qA7:(fun (P:Program) (f:FuncId) (fn:Func) (s:ChangeSpec) (c:OpenClaim)=>((c.maps==(fn.params.toList++s.plain.varTypes P).any (P.mapsRec ·)):Bool)) Tryz.prog 8 Tryz.f8 Rows.decisionCommonSpec Rows.decisionCommonRow=true:=by kernel_rfl
theorem qA8:(fun (P:Program) (f:FuncId) (fn:Func) (s:ChangeSpec) (c:OpenClaim)=>((c.ifaces==(fn.params.toList++s.plain.varTypes P).any (P.ifacesRec ·)):Bool)) Tryz.prog 8 Tryz.f8 Rows.decisionCommonSpec Rows.decisionCommonRow=true:=by kernel_rfl
theorem qA9:(fun (P:Program) (f:FuncId) (fn:Func) (s:ChangeSpec) (c:OpenClaim)=>((c.mapsOut==P.mapsAmong fn.resultTypes.toList):Bool)) Tryz.prog 8 Tryz.f8 Rows.decisionCommonSpec Rows.decisionCommonRow=true:=by kernel_rfl
theorem qBa:(fun (P:Program) (f:FuncId) (fn:Func) (s:ChangeSpec) (c:OpenClaim)=>((c.loops==(fn.params.toList++s.plain.varTypes P).any (P.loopsFrom ·)):Bool)) Tryz.prog 8 Tryz.f8 Rows.decisionCommonSpec Rows.decisionCommonRow=true:=by kernel_rfl
theorem qBb:(fun (P:Program) (f:FuncId) (fn:Func) (s:ChangeSpec) (c:OpenClaim)=>((c.wideKeys==(fn.params.toList++s.plain.varTypes P++fn.resultTypes.toList).any (P.wideKeysFrom ·)):Bool)) Tryz.prog 8 Tryz.f8 Rows.decisionCommonSpec Rows.decisionCommonRow=true:=by kernel_rfl
theorem qBc:(fun (P:Program) (f:FuncId) (fn:Func) (s:ChangeSpec) (c:OpenClaim)=>(s.vars.all (P.varReadable ·):Bool)) Tryz.prog 8 Tryz.f8 Rows.decisionCommonSpec Rows.decisionCommonRow=true:=by kernel_rfl
theorem qBd:(fun (P:Program) (f:FuncId) (fn:Func) (s:ChangeSpec) (c:OpenClaim)=>(fn.resultTypes.all (fun t=>P.readableRec t&&decide (t<P.types.size)):Bool)) Tryz.prog 8 Tryz.f8 Rows.decisionCommonSpec Rows.decisionCommonRow=true:=by kernel_rfl
theorem qBe:(fun (P:Program) (f:FuncId) (fn:Func) (s:ChangeSpec) (c:OpenClaim)=>((c.ifacesOut==fn.resultTypes.toList.any (P.ifacesRec ·)):Bool)) Tryz.prog 8 Tryz.f8 Rows.decisionCommonSpec Rows.decisionCommonRow=true:=by kernel_rfl
theorem qBf:(fun (P:Program) (f:FuncId) (fn:Func) (s:ChangeSpec) (c:OpenClaim)=>((c.loopsOut==fn.resultTypes.toList.any (P.loopsFrom ·)):Bool)) Tryz.prog 8 Tryz.f8 Rows.decisionCommonSpec Rows.decisionCommonRow=true:=by kernel_rfl
theorem qBg:(fun (P:Program) (f:FuncId) (fn:Func) (s:ChangeSpec) (c:OpenClaim)=>((c.plainKeys==P.plainKeys):Bool)) Tryz.prog 8 Tryz.f8 Rows.decisionCommonSpec Rows.decisionCommonRow=true:=by kernel_rfl
theorem qBh:(fun (P:Program) (f:FuncId) (fn:Func) (s:ChangeSpec) (c:OpenClaim)=>(c.shortTexts.isNone:Bool)) Tryz.prog 8 Tryz.f8 Rows.decisionCommonSpec Rows.decisionCommonRow=true:=by kernel_rfl
theorem qBk:(fun (P:Program) (f:FuncId) (fn:Func) (s:ChangeSpec) (c:OpenClaim)=>((c.kinds==(if c.domain.isEmpty then [] else fn.params.toList.map fun t=>match P.underlying t with|some (.int k)=>some k|_=>none)):Bool)) Tryz.prog 8 Tryz.f8 Rows.decisionCommonSpec Rows.decisionCommonRow=true:=by kernel_rfl
theorem qBl:(fun (P:Program) (f:FuncId) (fn:Func) (s:ChangeSpec) (c:OpenClaim)=>((c.pinned==c.pinnedBy):Bool)) Tryz.prog 8 Tryz.f8 Rows.decisionCommonSpec Rows.decisionCommonRow=true:=by kernel_rfl
theorem qBm:(fun (P:Program) (f:FuncId) (fn:Func) (s:ChangeSpec) (c:OpenClaim)=>((c.veiled==(fn.params.toList++s.plain.varTypes P++fn.resultTypes.toList).any (P.veiledRec ·)):Bool)) Tryz.prog 8 Tryz.f8 Rows.decisionCommonSpec Rows.decisionCommonRow=true:=by kernel_rfl
theorem qBn:(fun (P:Program) (f:FuncId) (fn:Func) (s:ChangeSpec) (c:OpenClaim)=>(c.veiledFits P fn.params.toList (fn.params.toList++s.plain.varTypes P++fn.resultTypes.toList):Bool)) Tryz.prog 8 Tryz.f8 Rows.decisionCommonSpec Rows.decisionCommonRow=true:=by kernel_rfl
theorem qw{a b:Bool}(h1:a=true)(h2:b=true):(a&&b)=true:=by rw[h1,h2];rfl
theorem qtn:joinedFacts Tryz.prog 8 Tryz.f8 Rows.decisionCommonSpec Rows.decisionCommonRow=true:=by
 unfold joinedFacts;refine qw ?_ (by exact qBn);refine qw ?_ (by exact qBm);refine qw ?_ (by exact qBl);refine qw ?_ (by exact qBk);refine qw ?_ (by exact qBj);refine qw ?_ (by exact qBi);refine qw ?_ (by exact qFv);refine qw ?_ (by exact qFu);refine qw ?_ (by exact qBh);refine qw ?_ (by exact qBg);refine qw ?_ (by exact qBf);refine qw ?_ (by exact qBe);refine qw ?_ (by exact qBd);refine qw ?_ (by exact qBc);refine qw ?_ (by exact qBb);refine qw ?_ (by exact qBa);refine qw ?_ (by exact qA9);refine qw ?_ (by exact qA8);refine qw ?_ (by exact qA7);refine qw ?_ (by exact qA6);refine qw ?_ (by exact qA5);refine qw ?_ (by exact qA4);refine qw ?_ (by exact qDx);refine qw ?_ (by exact wp8);refine qw ?_ (by exact qDw);refine qw ?_ (by exact wp6);refine qw ?_ (by exact qDv);refine qw ?_ (by exact qDu);refine qw ?_ (by exact qDt);refine qw ?_ (by exact wp2);refine qw ?_ (by exact wp1);exact qDs
end Go.Proofs.YthjkfdakolejgaaGreatDoor
