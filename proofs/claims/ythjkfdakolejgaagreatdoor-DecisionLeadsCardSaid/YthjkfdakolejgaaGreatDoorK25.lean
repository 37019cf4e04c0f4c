import Derived.Test.YthjkfdakolejgaaGreatDoorRows
import Derived.JoinedOf
import Derived.KernelRfl
import Derived.Test.YthjkfdakolejgaaGreatDoorK0
import Derived.Test.YthjkfdakolejgaaGreatDoorK19
import Derived.Test.YthjkfdakolejgaaGreatDoorK20
import Derived.Test.YthjkfdakolejgaaGreatDoorK21
import Derived.Test.YthjkfdakolejgaaGreatDoorK22
import Derived.Test.YthjkfdakolejgaaGreatDoorK23
import Derived.Test.YthjkfdakolejgaaGreatDoorK24
set_option linter.all false
set_option linter.unusedSimpArgs false
set_option linter.unusedVariables false
set_option linter.unusedSectionVars false
namespace Go.Proofs.YthjkfdakolejgaaGreatDoor
open Go
set_option maxRecDepth 100000
theorem qBP:(fun (P:Program) (f:FuncId) (fn:Func) (s:ChangeSpec) (c:OpenClaim)=>(c.wf (OpenSpec.ofChange s):Bool)) Tryz.prog 11 Tryz.f11 Rows.decisionLeadsSpec Rows.decisionLeadsRow=true:=by kernel_rfl
theorem qBQ:(fun (P:Program) (f:FuncId) (fn:Func) (s:ChangeSpec) (c:OpenClaim)=>(fn.params.all (P.readableRec ·):Bool)) Tryz.prog 11 Tryz.f11 Rows.decisionLeadsSpec Rows.decisionLeadsRow=true:=by kernel_rfl
theorem qBR:(fun (P:Program) (f:FuncId) (fn:Func) (s:ChangeSpec) (c:OpenClaim)=>(namedTie P c.named s.vars:Bool)) Tryz.prog 11 Tryz.f11 Rows.decisionLeadsSpec Rows.decisionLeadsRow=true:=by kernel_rfl
theorem qBS:(fun (P:Program) (f:FuncId) (fn:Func) (s:ChangeSpec) (c:OpenClaim)=>((c.stops== []):Bool)) Tryz.prog 11 Tryz.f11 Rows.decisionLeadsSpec Rows.decisionLeadsRow=true:=by kernel_rfl
theorem qBT:(fun (P:Program) (f:FuncId) (fn:Func) (s:ChangeSpec) (c:OpenClaim)=>((c.knobs== []):Bool)) Tryz.prog 11 Tryz.f11 Rows.decisionLeadsSpec Rows.decisionLeadsRow=true:=by kernel_rfl
theorem qwa:(fun (P:Program) (f:FuncId) (fn:Func) (s:ChangeSpec) (c:OpenClaim)=>((c.maps==(fn.params.toList++s.plain.varTypes P).any (P.mapsRec ·)):Bool)) Tryz.prog 11 Tryz.f11 Rows.decisionLeadsSpec Rows.decisionLeadsRow=true:=by kernel_rfl
theorem qwb:(fun (P:Program) (f:FuncId) (fn:Func) (s:ChangeSpec) (c:OpenClaim)=>((c.ifaces==(fn.params.toList++s.plain.varTypes P).any (P.ifacesRec ·)):Bool)) Tryz.prog 11 Tryz.f11 Rows.decisionLeadsSpec Rows.decisionLeadsRow=true:=by kernel_rfl
theorem qwc:(fun (P:Program) (f:FuncId) (fn:Func) (s:ChangeSpec) (c:OpenClaim)=>((c.mapsOut==P.mapsAmong fn.resultTypes.toList):Bool)) Tryz.prog 11 Tryz.f11 Rows.decisionLeadsSpec Rows.decisionLeadsRow=true:=by kernel_rfl
theorem qwd:(fun (P:Program) (f:FuncId) (fn:Func) (s:ChangeSpec) (c:OpenClaim)=>((c.loops==(fn.params.toList++s.plain.varTypes P).any (P.loopsFrom ·)):Bool)) Tryz.prog 11 Tryz.f11 Rows.decisionLeadsSpec Rows.decisionLeadsRow=true:=by kernel_rfl
theorem qwe:(fun (P:Program) (f:FuncId) (fn:Func) (s:ChangeSpec) (c:OpenClaim)=>((c.wideKeys==(fn.params.toList++s.plain.varTypes P++fn.resultTypes.toList).any (P.wideKeysFrom ·)):Bool)) Tryz.prog 11 Tryz.f11 Rows.decisionLeadsSpec Rows.decisionLeadsRow=true:=by kernel_rfl
theorem qwf:(fun (P:Program) (f:FuncId) (fn:Func) (s:ChangeSpec) (c:OpenClaim)=>(s.vars.all (P.varReadable ·):Bool)) Tryz.prog 11 Tryz.f11 Rows.decisionLeadsSpec Rows.decisionLeadsRow=true:=by kernel_rfl
theorem qwg:(fun (P:Program) (f:FuncId) (fn:Func) (s:ChangeSpec) (c:OpenClaim)=>(fn.resultTypes.all (fun t=>P.readableRec t&&decide (t<P.types.size)):Bool)) Tryz.prog 11 Tryz.f11 Rows.decisionLeadsSpec Rows.decisionLeadsRow=true:=by kernel_rfl
theorem qwh:(fun (P:Program) (f:FuncId) (fn:Func) (s:ChangeSpec) (c:OpenClaim)=>((c.ifacesOut==fn.resultTypes.toList.any (P.ifacesRec ·)):Bool)) Tryz.prog 11 Tryz.f11 Rows.decisionLeadsSpec Rows.decisionLeadsRow=true:=by kernel_rfl
theorem qwi:(fun (P:Program) (f:FuncId) (fn:Func) (s:ChangeSpec) (c:OpenClaim)=>((c.loopsOut==fn.resultTypes.toList.any (P.loopsFrom ·)):Bool)) Tryz.prog 11 Tryz.f11 Rows.decisionLeadsSpec Rows.decisionLeadsRow=true:=by kernel_rfl
theorem qwj:(fun (P:Program) (f:FuncId) (fn:Func) (s:ChangeSpec) (c:OpenClaim)=>((c.plainKeys==P.plainKeys):Bool)) Tryz.prog 11 Tryz.f11 Rows.decisionLeadsSpec Rows.decisionLeadsRow=true:=by kernel_rfl
theorem qwk:(fun (P:Program) (f:FuncId) (fn:Func) (s:ChangeSpec) (c:OpenClaim)=>(c.shortTexts.isNone:Bool)) Tryz.prog 11 Tryz.f11 Rows.decisionLeadsSpec Rows.decisionLeadsRow=true:=by kernel_rfl
theorem qwn:(fun (P:Program) (f:FuncId) (fn:Func) (s:ChangeSpec) (c:OpenClaim)=>((c.kinds==(if c.domain.isEmpty then [] else fn.params.toList.map fun t=>match P.underlying t with|some (.int k)=>some k|_=>none)):Bool)) Tryz.prog 11 Tryz.f11 Rows.decisionLeadsSpec Rows.decisionLeadsRow=true:=by kernel_rfl
theorem qwo:(fun (P:Program) (f:FuncId) (fn:Func) (s:ChangeSpec) (c:OpenClaim)=>((c.pinned==c.pinnedBy):Bool)) Tryz.prog 11 Tryz.f11 Rows.decisionLeadsSpec Rows.decisionLeadsRow=true:=by kernel_rfl
theorem qwp:(fun (P:Program) (f:FuncId) (fn:Func) (s:ChangeSpec) (c:OpenClaim)=>((c.veiled==(fn.params.toList++s.plain.varTypes P++fn.resultTypes.toList).any (P.veiledRec ·)):Bool)) Tryz.prog 11 Tryz.f11 Rows.decisionLeadsSpec Rows.decisionLeadsRow=true:=by kernel_rfl
theorem qwq:(fun (P:Program) (f:FuncId) (fn:Func) (s:ChangeSpec) (c:OpenClaim)=>(c.veiledFits P fn.params.toList (fn.params.toList++s.plain.varTypes P++fn.resultTypes.toList):Bool)) Tryz.prog 11 Tryz.f11 Rows.decisionLeadsSpec Rows.decisionLeadsRow=true:=by kernel_rfl
theorem qv{a b:Bool}(h1:a=true)(h2:b=true):(a&&b)=true:=by rw[h1,h2];rfl
theorem qpn:joinedFacts Tryz.prog 11 Tryz.f11 Rows.decisionLeadsSpec Rows.decisionLeadsRow=true:=by
 unfold joinedFacts;refine qv ?_ (by exact qwq);refine qv ?_ (by exact qwp);refine qv ?_ (by exact qwo);refine qv ?_ (by exact qwn);refine qv ?_ (by exact qwm);refine qv ?_ (by exact qwl);refine qv ?_ (by exact qF7);refine qv ?_ (by exact qF6);refine qv ?_ (by exact qwk);refine qv ?_ (by exact qwj);refine qv ?_ (by exact qwi);refine qv ?_ (by exact qwh);refine qv ?_ (by exact qwg);refine qv ?_ (by exact qwf);refine qv ?_ (by exact qwe);refine qv ?_ (by exact qwd);refine qv ?_ (by exact qwc);refine qv ?_ (by exact qwb);refine qv ?_ (by exact qwa);refine qv ?_ (by exact qv9);refine qv ?_ (by exact qv8);refine qv ?_ (by exact qv7);refine qv ?_ (by exact qBU);refine qv ?_ (by exact wp8);refine qv ?_ (by exact qBT);refine qv ?_ (by exact wp6);refine qv ?_ (by exact qBS);refine qv ?_ (by exact qBR);refine qv ?_ (by exact qBQ);refine qv ?_ (by exact wp2);refine qv ?_ (by exact wp1);exact qBP
end Go.Proofs.YthjkfdakolejgaaGreatDoor
