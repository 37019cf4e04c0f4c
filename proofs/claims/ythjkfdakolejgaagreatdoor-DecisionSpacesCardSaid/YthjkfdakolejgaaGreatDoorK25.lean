import Derived.Test.YthjkfdakolejgaaGreatDoorRows
import Derived.JoinedOf
import Derived.KernelRfl
import Derived.Test.YthjkfdakolejgaaGreatDoorK0
import Derived.Test.YthjkfdakolejgaaGreatDoorK19
import Derived.Test.YthjkfdakolejgaaGreatDoorK20
import Derived.Test.YthjkfdakolejgaaGreatDoorK21
import Derived.Test.YthjkfdakolejgaaGreatDoorK22
import Derived.Test.YthjkfdakolejgaaGreatDoorK23
import Derived.Test.YthjkfdakolejgaaGreatDoorK24
set_option linter.all false
set_option linter.unusedSimpArgs false
set_option linter.unusedVariables false
set_option linter.unusedSectionVars false
namespace Go.Proofs.YthjkfdakolejgaaGreatDoor
open Go
set_option maxRecDepth 100000
theorem qDe:(fun (P:Program) (f:FuncId) (fn:Func) (s:ChangeSpec) (c:OpenClaim)=>(c.wf (OpenSpec.ofChange s):Bool)) Tryz.prog 6 Tryz.f6 Rows.decisionSpacesSpec Rows.decisionSpacesRow=true:=by kernel_rfl
theorem qDf:(fun (P:Program) (f:FuncId) (fn:Func) (s:ChangeSpec) (c:OpenClaim)=>(fn.params.all (P.readableRec ·):Bool)) Tryz.prog 6 Tryz.f6 Rows.decisionSpacesSpec Rows.decisionSpacesRow=true:=by kernel_rfl
theorem qDg:(fun (P:Program) (f:FuncId) (fn:Func) (s:ChangeSpec) (c:OpenClaim)=>(namedTie P c.named s.vars:Bool)) Tryz.prog 6 Tryz.f6 Rows.decisionSpacesSpec Rows.decisionSpacesRow=true:=by kernel_rfl
theorem qDh:(fun (P:Program) (f:FuncId) (fn:Func) (s:ChangeSpec) (c:OpenClaim)=>((c.stops== []):Bool)) Tryz.prog 6 Tryz.f6 Rows.decisionSpacesSpec Rows.decisionSpacesRow=true:=by kernel_rfl
theorem qDi:(fun (P:Program) (f:FuncId) (fn:Func) (s:ChangeSpec) (c:OpenClaim)=>((c.knobs== []):Bool)) Tryz.prog 6 Tryz.f6 Rows.decisionSpacesSpec Rows.decisionSpacesRow=true:=by kernel_rfl
theorem qAT:(fun (P:Program) (f:FuncId) (fn:Func) (s:ChangeSpec) (c:OpenClaim)=>((c.maps==(fn.params.toList++s.plain.varTypes P).any (P.mapsRec ·)):Bool)) Tryz.prog 6 Tryz.f6 Rows.decisionSpacesSpec Rows.decisionSpacesRow=true:=by kernel_rfl
theorem qAU:(fun (P:Program) (f:FuncId) (fn:Func) (s:ChangeSpec) (c:OpenClaim)=>((c.ifaces==(fn.params.toList++s.plain.varTypes P).any (P.ifacesRec ·)):Bool)) Tryz.prog 6 Tryz.f6 Rows.decisionSpacesSpec Rows.decisionSpacesRow=true:=by kernel_rfl
theorem qAV:(fun (P:Program) (f:FuncId) (fn:Func) (s:ChangeSpec) (c:OpenClaim)=>((c.mapsOut==P.mapsAmong fn.resultTypes.toList):Bool)) Tryz.prog 6 Tryz.f6 Rows.decisionSpacesSpec Rows.decisionSpacesRow=true:=by kernel_rfl
theorem qAW:(fun (P:Program) (f:FuncId) (fn:Func) (s:ChangeSpec) (c:OpenClaim)=>((c.loops==(fn.params.toList++s.plain.varTypes P).any (P.loopsFrom ·)):Bool)) Tryz.prog 6 Tryz.f6 Rows.decisionSpacesSpec Rows.decisionSpacesRow=true:=by kernel_rfl
theorem qAX:(fun (P:Program) (f:FuncId) (fn:Func) (s:ChangeSpec) (c:OpenClaim)=>((c.wideKeys==(fn.params.toList++s.plain.varTypes P++fn.resultTypes.toList).any (P.wideKeysFrom ·)):Bool)) Tryz.prog 6 Tryz.f6 Rows.decisionSpacesSpec Rows.decisionSpacesRow=true:=by kernel_rfl
theorem qAY:(fun (P:Program) (f:FuncId) (fn:Func) (s:ChangeSpec) (c:OpenClaim)=>(s.vars.all (P.varReadable ·):Bool)) Tryz.prog 6 Tryz.f6 Rows.decisionSpacesSpec Rows.decisionSpacesRow=true:=by kernel_rfl
theorem qAZ:(fun (P:Program) (f:FuncId) (fn:Func) (s:ChangeSpec) (c:OpenClaim)=>(fn.resultTypes.all (fun t=>P.readableRec t&&decide (t<P.types.size)):Bool)) Tryz.prog 6 Tryz.f6 Rows.decisionSpacesSpec Rows.decisionSpacesRow=true:=by kernel_rfl
theorem qA0:(fun (P:Program) (f:FuncId) (fn:Func) (s:ChangeSpec) (c:OpenClaim)=>((c.ifacesOut==fn.resultTypes.toList.any (P.ifacesRec ·)):Bool)) Tryz.prog 6 Tryz.f6 Rows.decisionSpacesSpec Rows.decisionSpacesRow=true:=by kernel_rfl
theorem qA1:(fun (P:Program) (f:FuncId) (fn:Func) (s:ChangeSpec) (c:OpenClaim)=>((c.loopsOut==fn.resultTypes.toList.any (P.loopsFrom ·)):Bool)) Tryz.prog 6 Tryz.f6 Rows.decisionSpacesSpec Rows.decisionSpacesRow=true:=by kernel_rfl
theorem qA2:(fun (P:Program) (f:FuncId) (fn:Func) (s:ChangeSpec) (c:OpenClaim)=>((c.plainKeys==P.plainKeys):Bool)) Tryz.prog 6 Tryz.f6 Rows.decisionSpacesSpec Rows.decisionSpacesRow=true:=by kernel_rfl
theorem qA3:(fun (P:Program) (f:FuncId) (fn:Func) (s:ChangeSpec) (c:OpenClaim)=>(c.shortTexts.isNone:Bool)) Tryz.prog 6 Tryz.f6 Rows.decisionSpacesSpec Rows.decisionSpacesRow=true:=by kernel_rfl
theorem qA6:(fun (P:Program) (f:FuncId) (fn:Func) (s:ChangeSpec) (c:OpenClaim)=>((c.kinds==(if c.domain.isEmpty then [] else fn.params.toList.map fun t=>match P.underlying t with|some (.int k)=>some k|_=>none)):Bool)) Tryz.prog 6 Tryz.f6 Rows.decisionSpacesSpec Rows.decisionSpacesRow=true:=by kernel_rfl
theorem qA7:(fun (P:Program) (f:FuncId) (fn:Func) (s:ChangeSpec) (c:OpenClaim)=>((c.pinned==c.pinnedBy):Bool)) Tryz.prog 6 Tryz.f6 Rows.decisionSpacesSpec Rows.decisionSpacesRow=true:=by kernel_rfl
theorem qA8:(fun (P:Program) (f:FuncId) (fn:Func) (s:ChangeSpec) (c:OpenClaim)=>((c.veiled==(fn.params.toList++s.plain.varTypes P++fn.resultTypes.toList).any (P.veiledRec ·)):Bool)) Tryz.prog 6 Tryz.f6 Rows.decisionSpacesSpec Rows.decisionSpacesRow=true:=by kernel_rfl
theorem qA9:(fun (P:Program) (f:FuncId) (fn:Func) (s:ChangeSpec) (c:OpenClaim)=>(c.veiledFits P fn.params.toList (fn.params.toList++s.plain.varTypes P++fn.resultTypes.toList):Bool)) Tryz.prog 6 Tryz.f6 Rows.decisionSpacesSpec Rows.decisionSpacesRow=true:=by kernel_rfl
theorem qw{a b:Bool}(h1:a=true)(h2:b=true):(a&&b)=true:=by rw[h1,h2];rfl
theorem qtd:joinedFacts Tryz.prog 6 Tryz.f6 Rows.decisionSpacesSpec Rows.decisionSpacesRow=true:=by
 unfold joinedFacts;refine qw ?_ (by exact qA9);refine qw ?_ (by exact qA8);refine qw ?_ (by exact qA7);refine qw ?_ (by exact qA6);refine qw ?_ (by exact qA5);refine qw ?_ (by exact qA4);refine qw ?_ (by exact qFd);refine qw ?_ (by exact qFc);refine qw ?_ (by exact qA3);refine qw ?_ (by exact qA2);refine qw ?_ (by exact qA1);refine qw ?_ (by exact qA0);refine qw ?_ (by exact qAZ);refine qw ?_ (by exact qAY);refine qw ?_ (by exact qAX);refine qw ?_ (by exact qAW);refine qw ?_ (by exact qAV);refine qw ?_ (by exact qAU);refine qw ?_ (by exact qAT);refine qw ?_ (by exact qAS);refine qw ?_ (by exact qAR);refine qw ?_ (by exact qAQ);refine qw ?_ (by exact qDj);refine qw ?_ (by exact wp8);refine qw ?_ (by exact qDi);refine qw ?_ (by exact wp6);refine qw ?_ (by exact qDh);refine qw ?_ (by exact qDg);refine qw ?_ (by exact qDf);refine qw ?_ (by exact wp2);refine qw ?_ (by exact wp1);exact qDe
end Go.Proofs.YthjkfdakolejgaaGreatDoor
