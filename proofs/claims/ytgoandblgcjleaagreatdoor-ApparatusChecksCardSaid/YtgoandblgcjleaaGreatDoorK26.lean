import Derived.Test.YtgoandblgcjleaaGreatDoorRows
import Derived.JoinedOf
import Derived.KernelRfl
import Derived.Test.YtgoandblgcjleaaGreatDoorK0
import Derived.Test.YtgoandblgcjleaaGreatDoorK20
import Derived.Test.YtgoandblgcjleaaGreatDoorK21
import Derived.Test.YtgoandblgcjleaaGreatDoorK22
import Derived.Test.YtgoandblgcjleaaGreatDoorK23
import Derived.Test.YtgoandblgcjleaaGreatDoorK24
import Derived.Test.YtgoandblgcjleaaGreatDoorK25
set_option linter.all false
set_option linter.unusedSimpArgs false
set_option linter.unusedVariables false
set_option linter.unusedSectionVars false
namespace Go.Proofs.YtgoandblgcjleaaGreatDoor
open Go
set_option maxRecDepth 100000
theorem qBm:(fun (P:Program) (f:FuncId) (fn:Func) (s:ChangeSpec) (c:OpenClaim)=>(c.wf (OpenSpec.ofChange s):Bool)) Tryz.prog 13 Tryz.f13 Rows.apparatusChecksSpec Rows.apparatusChecksRow=true:=by kernel_rfl
theorem qBn:(fun (P:Program) (f:FuncId) (fn:Func) (s:ChangeSpec) (c:OpenClaim)=>(fn.params.all (P.readableRec ·):Bool)) Tryz.prog 13 Tryz.f13 Rows.apparatusChecksSpec Rows.apparatusChecksRow=true:=by kernel_rfl
theorem qBo:(fun (P:Program) (f:FuncId) (fn:Func) (s:ChangeSpec) (c:OpenClaim)=>(namedTie P c.named s.vars:Bool)) Tryz.prog 13 Tryz.f13 Rows.apparatusChecksSpec Rows.apparatusChecksRow=true:=by kernel_rfl
theorem qBp:(fun (P:Program) (f:FuncId) (fn:Func) (s:ChangeSpec) (c:OpenClaim)=>((c.stops== []):Bool)) Tryz.prog 13 Tryz.f13 Rows.apparatusChecksSpec Rows.apparatusChecksRow=true:=by kernel_rfl
theorem qBq:(fun (P:Program) (f:FuncId) (fn:Func) (s:ChangeSpec) (c:OpenClaim)=>((c.knobs== []):Bool)) Tryz.prog 13 Tryz.f13 Rows.apparatusChecksSpec Rows.apparatusChecksRow=true:=by kernel_rfl
theorem qvV:(fun (P:Program) (f:FuncId) (fn:Func) (s:ChangeSpec) (c:OpenClaim)=>((c.maps==(fn.params.toList++s.plain.varTypes P).any (P.mapsRec ·)):Bool)) Tryz.prog 13 Tryz.f13 Rows.apparatusChecksSpec Rows.apparatusChecksRow=true:=by kernel_rfl
theorem qvW:(fun (P:Program) (f:FuncId) (fn:Func) (s:ChangeSpec) (c:OpenClaim)=>((c.ifaces==(fn.params.toList++s.plain.varTypes P).any (P.ifacesRec ·)):Bool)) Tryz.prog 13 Tryz.f13 Rows.apparatusChecksSpec Rows.apparatusChecksRow=true:=by kernel_rfl
theorem qvX:(fun (P:Program) (f:FuncId) (fn:Func) (s:ChangeSpec) (c:OpenClaim)=>((c.mapsOut==P.mapsAmong fn.resultTypes.toList):Bool)) Tryz.prog 13 Tryz.f13 Rows.apparatusChecksSpec Rows.apparatusChecksRow=true:=by kernel_rfl
theorem qvY:(fun (P:Program) (f:FuncId) (fn:Func) (s:ChangeSpec) (c:OpenClaim)=>((c.loops==(fn.params.toList++s.plain.varTypes P).any (P.loopsFrom ·)):Bool)) Tryz.prog 13 Tryz.f13 Rows.apparatusChecksSpec Rows.apparatusChecksRow=true:=by kernel_rfl
theorem qvZ:(fun (P:Program) (f:FuncId) (fn:Func) (s:ChangeSpec) (c:OpenClaim)=>((c.wideKeys==(fn.params.toList++s.plain.varTypes P++fn.resultTypes.toList).any (P.wideKeysFrom ·)):Bool)) Tryz.prog 13 Tryz.f13 Rows.apparatusChecksSpec Rows.apparatusChecksRow=true:=by kernel_rfl
theorem qv0:(fun (P:Program) (f:FuncId) (fn:Func) (s:ChangeSpec) (c:OpenClaim)=>(s.vars.all (P.varReadable ·):Bool)) Tryz.prog 13 Tryz.f13 Rows.apparatusChecksSpec Rows.apparatusChecksRow=true:=by kernel_rfl
theorem qv1:(fun (P:Program) (f:FuncId) (fn:Func) (s:ChangeSpec) (c:OpenClaim)=>(fn.resultTypes.all (fun t=>P.readableRec t&&decide (t<P.types.size)):Bool)) Tryz.prog 13 Tryz.f13 Rows.apparatusChecksSpec Rows.apparatusChecksRow=true:=by kernel_rfl
theorem qv2:(fun (P:Program) (f:FuncId) (fn:Func) (s:ChangeSpec) (c:OpenClaim)=>((c.ifacesOut==fn.resultTypes.toList.any (P.ifacesRec ·)):Bool)) Tryz.prog 13 Tryz.f13 Rows.apparatusChecksSpec Rows.apparatusChecksRow=true:=by kernel_rfl
theorem qv3:(fun (P:Program) (f:FuncId) (fn:Func) (s:ChangeSpec) (c:OpenClaim)=>((c.loopsOut==fn.resultTypes.toList.any (P.loopsFrom ·)):Bool)) Tryz.prog 13 Tryz.f13 Rows.apparatusChecksSpec Rows.apparatusChecksRow=true:=by kernel_rfl
theorem qv4:(fun (P:Program) (f:FuncId) (fn:Func) (s:ChangeSpec) (c:OpenClaim)=>((c.plainKeys==P.plainKeys):Bool)) Tryz.prog 13 Tryz.f13 Rows.apparatusChecksSpec Rows.apparatusChecksRow=true:=by kernel_rfl
theorem qv5:(fun (P:Program) (f:FuncId) (fn:Func) (s:ChangeSpec) (c:OpenClaim)=>(c.shortTexts.isNone:Bool)) Tryz.prog 13 Tryz.f13 Rows.apparatusChecksSpec Rows.apparatusChecksRow=true:=by kernel_rfl
theorem qv8:(fun (P:Program) (f:FuncId) (fn:Func) (s:ChangeSpec) (c:OpenClaim)=>((c.kinds==(if c.domain.isEmpty then [] else fn.params.toList.map fun t=>match P.underlying t with|some (.int k)=>some k|_=>none)):Bool)) Tryz.prog 13 Tryz.f13 Rows.apparatusChecksSpec Rows.apparatusChecksRow=true:=by kernel_rfl
theorem qv9:(fun (P:Program) (f:FuncId) (fn:Func) (s:ChangeSpec) (c:OpenClaim)=>((c.pinned==c.pinnedBy):Bool)) Tryz.prog 13 Tryz.f13 Rows.apparatusChecksSpec Rows.apparatusChecksRow=true:=by kernel_rfl
theorem qwa:(fun (P:Program) (f:FuncId) (fn:Func) (s:ChangeSpec) (c:OpenClaim)=>((c.veiled==(fn.params.toList++s.plain.varTypes P++fn.resultTypes.toList).any (P.veiledRec ·)):Bool)) Tryz.prog 13 Tryz.f13 Rows.apparatusChecksSpec Rows.apparatusChecksRow=true:=by kernel_rfl
theorem qwb:(fun (P:Program) (f:FuncId) (fn:Func) (s:ChangeSpec) (c:OpenClaim)=>(c.veiledFits P fn.params.toList (fn.params.toList++s.plain.varTypes P++fn.resultTypes.toList):Bool)) Tryz.prog 13 Tryz.f13 Rows.apparatusChecksSpec Rows.apparatusChecksRow=true:=by kernel_rfl
theorem qs{a b:Bool}(h1:a=true)(h2:b=true):(a&&b)=true:=by rw[h1,h2];rfl
theorem qo5:joinedFacts Tryz.prog 13 Tryz.f13 Rows.apparatusChecksSpec Rows.apparatusChecksRow=true:=by
 unfold joinedFacts;refine qs ?_ (by exact qwb);refine qs ?_ (by exact qwa);refine qs ?_ (by exact qv9);refine qs ?_ (by exact qv8);refine qs ?_ (by exact qv7);refine qs ?_ (by exact qv6);refine qs ?_ (by exact qFd);refine qs ?_ (by exact qFc);refine qs ?_ (by exact qv5);refine qs ?_ (by exact qv4);refine qs ?_ (by exact qv3);refine qs ?_ (by exact qv2);refine qs ?_ (by exact qv1);refine qs ?_ (by exact qv0);refine qs ?_ (by exact qvZ);refine qs ?_ (by exact qvY);refine qs ?_ (by exact qvX);refine qs ?_ (by exact qvW);refine qs ?_ (by exact qvV);refine qs ?_ (by exact qvU);refine qs ?_ (by exact qvT);refine qs ?_ (by exact qvS);refine qs ?_ (by exact qBr);refine qs ?_ (by exact wp8);refine qs ?_ (by exact qBq);refine qs ?_ (by exact wp6);refine qs ?_ (by exact qBp);refine qs ?_ (by exact qBo);refine qs ?_ (by exact qBn);refine qs ?_ (by exact wp2);refine qs ?_ (by exact wp1);exact qBm
end Go.Proofs.YtgoandblgcjleaaGreatDoor
