import Derived.Test.YtmieflnoheifbaaGreatDoorRows
import Derived.JoinedOf
import Derived.KernelRfl
import Derived.Test.YtmieflnoheifbaaGreatDoorK0
import Derived.Test.YtmieflnoheifbaaGreatDoorK20
import Derived.Test.YtmieflnoheifbaaGreatDoorK21
import Derived.Test.YtmieflnoheifbaaGreatDoorK22
import Derived.Test.YtmieflnoheifbaaGreatDoorK23
import Derived.Test.YtmieflnoheifbaaGreatDoorK24
import Derived.Test.YtmieflnoheifbaaGreatDoorK25
set_option linter.all false
namespace Go.Proofs.YtmieflnoheifbaaGreatDoor
open Go
set_option maxRecDepth 100000
theorem qDm:(λ(P:Program) (f:FuncId) (fn:Func) (s:ChangeSpec) (c:OpenClaim)=>(c.wf (OpenSpec.ofChange s):Bool)) Tryz.prog 5 Tryz.f5 Rows.decisionChecksSpec Rows.decisionChecksRow=true:=by kernel_rfl
theorem qDn:(λ(P:Program) (f:FuncId) (fn:Func) (s:ChangeSpec) (c:OpenClaim)=>(fn.params.all (P.readableRec ·):Bool)) Tryz.prog 5 Tryz.f5 Rows.decisionChecksSpec Rows.decisionChecksRow=true:=by kernel_rfl
theorem qDo:(λ(P:Program) (f:FuncId) (fn:Func) (s:ChangeSpec) (c:OpenClaim)=>(namedTie P c.named s.vars:Bool)) Tryz.prog 5 Tryz.f5 Rows.decisionChecksSpec Rows.decisionChecksRow=true:=by kernel_rfl
theorem qDp:(λ(P:Program) (f:FuncId) (fn:Func) (s:ChangeSpec) (c:OpenClaim)=>((c.stops== []):Bool)) Tryz.prog 5 Tryz.f5 Rows.decisionChecksSpec Rows.decisionChecksRow=true:=by kernel_rfl
theorem qDq:(λ(P:Program) (f:FuncId) (fn:Func) (s:ChangeSpec) (c:OpenClaim)=>((c.knobs== []):Bool)) Tryz.prog 5 Tryz.f5 Rows.decisionChecksSpec Rows.decisionChecksRow=true:=by kernel_rfl
theorem qAK:(λ(P:Program) (f:FuncId) (fn:Func) (s:ChangeSpec) (c:OpenClaim)=>((c.maps==(fn.params.toList++s.plain.varTypes P).any (P.mapsRec ·)):Bool)) Tryz.prog 5 Tryz.f5 Rows.decisionChecksSpec Rows.decisionChecksRow=true:=by kernel_rfl
theorem qAL:(λ(P:Program) (f:FuncId) (fn:Func) (s:ChangeSpec) (c:OpenClaim)=>((c.ifaces==(fn.params.toList++s.plain.varTypes P).any (P.ifacesRec ·)):Bool)) Tryz.prog 5 Tryz.f5 Rows.decisionChecksSpec Rows.decisionChecksRow=true:=by kernel_rfl
theorem qAM:(λ(P:Program) (f:FuncId) (fn:Func) (s:ChangeSpec) (c:OpenClaim)=>((c.mapsOut==P.mapsAmong fn.resultTypes.toList):Bool)) Tryz.prog 5 Tryz.f5 Rows.decisionChecksSpec Rows.decisionChecksRow=true:=by kernel_rfl
theorem qAN:(λ(P:Program) (f:FuncId) (fn:Func) (s:ChangeSpec) (c:OpenClaim)=>((c.loops==(fn.params.toList++s.plain.varTypes P).any (P.loopsFrom ·)):Bool)) Tryz.prog 5 Tryz.f5 Rows.decisionChecksSpec Rows.decisionChecksRow=true:=by kernel_rfl
theorem qAO:(λ(P:Program) (f:FuncId) (fn:Func) (s:ChangeSpec) (c:OpenClaim)=>((c.wideKeys==(fn.params.toList++s.plain.varTypes P++fn.resultTypes.toList).any (P.wideKeysFrom ·)):Bool)) Tryz.prog 5 Tryz.f5 Rows.decisionChecksSpec Rows.decisionChecksRow=true:=by kernel_rfl
theorem qAP:(λ(P:Program) (f:FuncId) (fn:Func) (s:ChangeSpec) (c:OpenClaim)=>(s.vars.all (P.varReadable ·):Bool)) Tryz.prog 5 Tryz.f5 Rows.decisionChecksSpec Rows.decisionChecksRow=true:=by kernel_rfl
theorem qAQ:(λ(P:Program) (f:FuncId) (fn:Func) (s:ChangeSpec) (c:OpenClaim)=>(fn.resultTypes.all (λt=>P.readableRec t&&decide (t<P.types.size)):Bool)) Tryz.prog 5 Tryz.f5 Rows.decisionChecksSpec Rows.decisionChecksRow=true:=by kernel_rfl
theorem qAR:(λ(P:Program) (f:FuncId) (fn:Func) (s:ChangeSpec) (c:OpenClaim)=>((c.ifacesOut==fn.resultTypes.toList.any (P.ifacesRec ·)):Bool)) Tryz.prog 5 Tryz.f5 Rows.decisionChecksSpec Rows.decisionChecksRow=true:=by kernel_rfl
theorem qAS:(λ(P:Program) (f:FuncId) (fn:Func) (s:ChangeSpec) (c:OpenClaim)=>((c.loopsOut==fn.resultTypes.toList.any (P.loopsFrom ·)):Bool)) Tryz.prog 5 Tryz.f5 Rows.decisionChecksSpec Rows.decisionChecksRow=true:=by kernel_rfl
theorem qAT:(λ(P:Program) (f:FuncId) (fn:Func) (s:ChangeSpec) (c:OpenClaim)=>((c.plainKeys==P.plainKeys):Bool)) Tryz.prog 5 Tryz.f5 Rows.decisionChecksSpec Rows.decisionChecksRow=true:=by kernel_rfl
theorem qAU:(λ(P:Program) (f:FuncId) (fn:Func) (s:ChangeSpec) (c:OpenClaim)=>(c.shortTexts.isNone:Bool)) Tryz.prog 5 Tryz.f5 Rows.decisionChecksSpec Rows.decisionChecksRow=true:=by kernel_rfl
theorem qAX:(λ(P:Program) (f:FuncId) (fn:Func) (s:ChangeSpec) (c:OpenClaim)=>((c.kinds==(if c.domain.isEmpty then [] else fn.params.toList.map λt=>match P.underlying t with|some (.int k)=>some k|_=>none)):Bool)) Tryz.prog 5 Tryz.f5 Rows.decisionChecksSpec Rows.decisionChecksRow=true:=by kernel_rfl
theorem qAY:(λ(P:Program) (f:FuncId) (fn:Func) (s:ChangeSpec) (c:OpenClaim)=>((c.pinned==c.pinnedBy):Bool)) Tryz.prog 5 Tryz.f5 Rows.decisionChecksSpec Rows.decisionChecksRow=true:=by kernel_rfl
theorem qAZ:(λ(P:Program) (f:FuncId) (fn:Func) (s:ChangeSpec) (c:OpenClaim)=>((c.veiled==(fn.params.toList++s.plain.varTypes P++fn.resultTypes.toList).any (P.veiledRec ·)):Bool)) Tryz.prog 5 Tryz.f5 Rows.decisionChecksSpec Rows.decisionChecksRow=true:=by kernel_rfl
theorem qA0:(λ(P:Program) (f:FuncId) (fn:Func) (s:ChangeSpec) (c:OpenClaim)=>(c.veiledFits P fn.params.toList (fn.params.toList++s.plain.varTypes P++fn.resultTypes.toList):Bool)) Tryz.prog 5 Tryz.f5 Rows.decisionChecksSpec Rows.decisionChecksRow=true:=by kernel_rfl
theorem qx{a b:Bool}(h1:a=true)(h2:b=true):(a&&b)=true:=by rw[h1,h2];rfl
theorem qsE:joinedFacts Tryz.prog 5 Tryz.f5 Rows.decisionChecksSpec Rows.decisionChecksRow=true:=by
 unfold joinedFacts;refine qx ?_ (by exact qA0);refine qx ?_ (by exact qAZ);refine qx ?_ (by exact qAY);refine qx ?_ (by exact qAX);refine qx ?_ (by exact qAW);refine qx ?_ (by exact qAV);refine qx ?_ (by exact qFF);refine qx ?_ (by exact qFE);refine qx ?_ (by exact qAU);refine qx ?_ (by exact qAT);refine qx ?_ (by exact qAS);refine qx ?_ (by exact qAR);refine qx ?_ (by exact qAQ);refine qx ?_ (by exact qAP);refine qx ?_ (by exact qAO);refine qx ?_ (by exact qAN);refine qx ?_ (by exact qAM);refine qx ?_ (by exact qAL);refine qx ?_ (by exact qAK);refine qx ?_ (by exact qAJ);refine qx ?_ (by exact qAI);refine qx ?_ (by exact qAH);refine qx ?_ (by exact qDr);refine qx ?_ (by exact wp8);refine qx ?_ (by exact qDq);refine qx ?_ (by exact wp6);refine qx ?_ (by exact qDp);refine qx ?_ (by exact qDo);refine qx ?_ (by exact qDn);refine qx ?_ (by exact wp2);refine qx ?_ (by exact wp1);exact qDm
end Go.Proofs.YtmieflnoheifbaaGreatDoor
