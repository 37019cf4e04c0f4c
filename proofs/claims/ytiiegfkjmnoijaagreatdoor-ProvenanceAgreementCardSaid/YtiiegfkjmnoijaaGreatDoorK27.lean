import Derived.Test.YtiiegfkjmnoijaaGreatDoorRows
import Derived.JoinedOf
import Derived.KernelRfl
import Derived.Test.YtiiegfkjmnoijaaGreatDoorK0
import Derived.Test.YtiiegfkjmnoijaaGreatDoorK21
import Derived.Test.YtiiegfkjmnoijaaGreatDoorK22
import Derived.Test.YtiiegfkjmnoijaaGreatDoorK23
import Derived.Test.YtiiegfkjmnoijaaGreatDoorK24
import Derived.Test.YtiiegfkjmnoijaaGreatDoorK25
import Derived.Test.YtiiegfkjmnoijaaGreatDoorK26
set_option linter.all false
namespace Go.Proofs.YtiiegfkjmnoijaaGreatDoor
open Go
set_option maxRecDepth 100000
theorem qCU:(λ(P:Program) (f:FuncId) (fn:Func) (s:ChangeSpec) (c:OpenClaim)=>(c.wf (OpenSpec.ofChange s):Bool)) Tryz.prog 11 Tryz.f11 Rows.provenanceAgreementSpec Rows.provenanceAgreementRow=true:=by kernel_rfl
theorem qCV:(λ(P:Program) (f:FuncId) (fn:Func) (s:ChangeSpec) (c:OpenClaim)=>(fn.params.all (P.readableRec ·):Bool)) Tryz.prog 11 Tryz.f11 Rows.provenanceAgreementSpec Rows.provenanceAgreementRow=true:=by kernel_rfl
theorem qCW:(λ(P:Program) (f:FuncId) (fn:Func) (s:ChangeSpec) (c:OpenClaim)=>(namedTie P c.named s.vars:Bool)) Tryz.prog 11 Tryz.f11 Rows.provenanceAgreementSpec Rows.provenanceAgreementRow=true:=by kernel_rfl
theorem qCX:(λ(P:Program) (f:FuncId) (fn:Func) (s:ChangeSpec) (c:OpenClaim)=>((c.stops== []):Bool)) Tryz.prog 11 Tryz.f11 Rows.provenanceAgreementSpec Rows.provenanceAgreementRow=true:=by kernel_rfl
theorem qCY:(λ(P:Program) (f:FuncId) (fn:Func) (s:ChangeSpec) (c:OpenClaim)=>((c.knobs== []):Bool)) Tryz.prog 11 Tryz.f11 Rows.provenanceAgreementSpec Rows.provenanceAgreementRow=true:=by kernel_rfl
theorem qvT:(λ(P:Program) (f:FuncId) (fn:Func) (s:ChangeSpec) (c:OpenClaim)=>((c.maps==(fn.params.toList++s.plain.varTypes P).any (P.mapsRec ·)):Bool)) Tryz.prog 11 Tryz.f11 Rows.provenanceAgreementSpec Rows.provenanceAgreementRow=true:=by kernel_rfl
theorem qvU:(λ(P:Program) (f:FuncId) (fn:Func) (s:ChangeSpec) (c:OpenClaim)=>((c.ifaces==(fn.params.toList++s.plain.varTypes P).any (P.ifacesRec ·)):Bool)) Tryz.prog 11 Tryz.f11 Rows.provenanceAgreementSpec Rows.provenanceAgreementRow=true:=by kernel_rfl
theorem qvV:(λ(P:Program) (f:FuncId) (fn:Func) (s:ChangeSpec) (c:OpenClaim)=>((c.mapsOut==P.mapsAmong fn.resultTypes.toList):Bool)) Tryz.prog 11 Tryz.f11 Rows.provenanceAgreementSpec Rows.provenanceAgreementRow=true:=by kernel_rfl
theorem qvW:(λ(P:Program) (f:FuncId) (fn:Func) (s:ChangeSpec) (c:OpenClaim)=>((c.loops==(fn.params.toList++s.plain.varTypes P).any (P.loopsFrom ·)):Bool)) Tryz.prog 11 Tryz.f11 Rows.provenanceAgreementSpec Rows.provenanceAgreementRow=true:=by kernel_rfl
theorem qvX:(λ(P:Program) (f:FuncId) (fn:Func) (s:ChangeSpec) (c:OpenClaim)=>((c.wideKeys==(fn.params.toList++s.plain.varTypes P++fn.resultTypes.toList).any (P.wideKeysFrom ·)):Bool)) Tryz.prog 11 Tryz.f11 Rows.provenanceAgreementSpec Rows.provenanceAgreementRow=true:=by kernel_rfl
theorem qvY:(λ(P:Program) (f:FuncId) (fn:Func) (s:ChangeSpec) (c:OpenClaim)=>(s.vars.all (P.varReadable ·):Bool)) Tryz.prog 11 Tryz.f11 Rows.provenanceAgreementSpec Rows.provenanceAgreementRow=true:=by kernel_rfl
theorem qvZ:(λ(P:Program) (f:FuncId) (fn:Func) (s:ChangeSpec) (c:OpenClaim)=>(fn.resultTypes.all (λt=>P.readableRec t&&decide (t<P.types.size)):Bool)) Tryz.prog 11 Tryz.f11 Rows.provenanceAgreementSpec Rows.provenanceAgreementRow=true:=by kernel_rfl
theorem qv0:(λ(P:Program) (f:FuncId) (fn:Func) (s:ChangeSpec) (c:OpenClaim)=>((c.ifacesOut==fn.resultTypes.toList.any (P.ifacesRec ·)):Bool)) Tryz.prog 11 Tryz.f11 Rows.provenanceAgreementSpec Rows.provenanceAgreementRow=true:=by kernel_rfl
theorem qv1:(λ(P:Program) (f:FuncId) (fn:Func) (s:ChangeSpec) (c:OpenClaim)=>((c.loopsOut==fn.resultTypes.toList.any (P.loopsFrom ·)):Bool)) Tryz.prog 11 Tryz.f11 Rows.provenanceAgreementSpec Rows.provenanceAgreementRow=true:=by kernel_rfl
theorem qv2:(λ(P:Program) (f:FuncId) (fn:Func) (s:ChangeSpec) (c:OpenClaim)=>((c.plainKeys==P.plainKeys):Bool)) Tryz.prog 11 Tryz.f11 Rows.provenanceAgreementSpec Rows.provenanceAgreementRow=true:=by kernel_rfl
theorem qv3:(λ(P:Program) (f:FuncId) (fn:Func) (s:ChangeSpec) (c:OpenClaim)=>(c.shortTexts.isNone:Bool)) Tryz.prog 11 Tryz.f11 Rows.provenanceAgreementSpec Rows.provenanceAgreementRow=true:=by kernel_rfl
theorem qv6:(λ(P:Program) (f:FuncId) (fn:Func) (s:ChangeSpec) (c:OpenClaim)=>((c.kinds==(if c.domain.isEmpty then [] else fn.params.toList.map λt=>match P.underlying t with|some (.int k)=>some k|_=>none)):Bool)) Tryz.prog 11 Tryz.f11 Rows.provenanceAgreementSpec Rows.provenanceAgreementRow=true:=by kernel_rfl
theorem qv7:(λ(P:Program) (f:FuncId) (fn:Func) (s:ChangeSpec) (c:OpenClaim)=>((c.pinned==c.pinnedBy):Bool)) Tryz.prog 11 Tryz.f11 Rows.provenanceAgreementSpec Rows.provenanceAgreementRow=true:=by kernel_rfl
theorem qv8:(λ(P:Program) (f:FuncId) (fn:Func) (s:ChangeSpec) (c:OpenClaim)=>((c.veiled==(fn.params.toList++s.plain.varTypes P++fn.resultTypes.toList).any (P.veiledRec ·)):Bool)) Tryz.prog 11 Tryz.f11 Rows.provenanceAgreementSpec Rows.provenanceAgreementRow=true:=by kernel_rfl
theorem qv9:(λ(P:Program) (f:FuncId) (fn:Func) (s:ChangeSpec) (c:OpenClaim)=>(c.veiledFits P fn.params.toList (fn.params.toList++s.plain.varTypes P++fn.resultTypes.toList):Bool)) Tryz.prog 11 Tryz.f11 Rows.provenanceAgreementSpec Rows.provenanceAgreementRow=true:=by kernel_rfl
theorem qx{a b:Bool}(h1:a=true)(h2:b=true):(a&&b)=true:=by rw[h1,h2];rfl
theorem qou:joinedFacts Tryz.prog 11 Tryz.f11 Rows.provenanceAgreementSpec Rows.provenanceAgreementRow=true:=by
 unfold joinedFacts;refine qx ?_ (by exact qv9);refine qx ?_ (by exact qv8);refine qx ?_ (by exact qv7);refine qx ?_ (by exact qv6);refine qx ?_ (by exact qv5);refine qx ?_ (by exact qv4);refine qx ?_ (by exact qFD);refine qx ?_ (by exact qFC);refine qx ?_ (by exact qv3);refine qx ?_ (by exact qv2);refine qx ?_ (by exact qv1);refine qx ?_ (by exact qv0);refine qx ?_ (by exact qvZ);refine qx ?_ (by exact qvY);refine qx ?_ (by exact qvX);refine qx ?_ (by exact qvW);refine qx ?_ (by exact qvV);refine qx ?_ (by exact qvU);refine qx ?_ (by exact qvT);refine qx ?_ (by exact qvS);refine qx ?_ (by exact qvR);refine qx ?_ (by exact qvQ);refine qx ?_ (by exact qCZ);refine qx ?_ (by exact wp8);refine qx ?_ (by exact qCY);refine qx ?_ (by exact wp6);refine qx ?_ (by exact qCX);refine qx ?_ (by exact qCW);refine qx ?_ (by exact qCV);refine qx ?_ (by exact wp2);refine qx ?_ (by exact wp1);exact qCU
end Go.Proofs.YtiiegfkjmnoijaaGreatDoor
