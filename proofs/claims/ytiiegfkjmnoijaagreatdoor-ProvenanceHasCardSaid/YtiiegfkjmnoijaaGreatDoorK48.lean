import Derived.Test.YtiiegfkjmnoijaaGreatDoorRows
import Derived.JoinedOf
import Derived.KernelRfl
import Derived.Test.YtiiegfkjmnoijaaGreatDoorK0
import Derived.Test.YtiiegfkjmnoijaaGreatDoorK20
import Derived.Test.YtiiegfkjmnoijaaGreatDoorK21
import Derived.Test.YtiiegfkjmnoijaaGreatDoorK44
import Derived.Test.YtiiegfkjmnoijaaGreatDoorK45
import Derived.Test.YtiiegfkjmnoijaaGreatDoorK46
import Derived.Test.YtiiegfkjmnoijaaGreatDoorK47
set_option linter.all false
namespace Go.Proofs.YtiiegfkjmnoijaaGreatDoor
open Go
set_option maxRecDepth 100000
theorem PO:(λ(P:Program) (f:FuncId) (fn:Func) (s:ChangeSpec) (c:OpenClaim)=>(c.wf (OpenSpec.ofChange s):Bool)) Tryz.prog 10 Tryz.f10 Rows.provenanceHasSpec Rows.provenanceHasRow=true:=by kernel_rfl
theorem PP:(λ(P:Program) (f:FuncId) (fn:Func) (s:ChangeSpec) (c:OpenClaim)=>(fn.params.all (P.readableRec ·):Bool)) Tryz.prog 10 Tryz.f10 Rows.provenanceHasSpec Rows.provenanceHasRow=true:=by kernel_rfl
theorem PQ:(λ(P:Program) (f:FuncId) (fn:Func) (s:ChangeSpec) (c:OpenClaim)=>(namedTie P c.named s.vars:Bool)) Tryz.prog 10 Tryz.f10 Rows.provenanceHasSpec Rows.provenanceHasRow=true:=by kernel_rfl
theorem PR:(λ(P:Program) (f:FuncId) (fn:Func) (s:ChangeSpec) (c:OpenClaim)=>((c.stops== []):Bool)) Tryz.prog 10 Tryz.f10 Rows.provenanceHasSpec Rows.provenanceHasRow=true:=by kernel_rfl
theorem PS:(λ(P:Program) (f:FuncId) (fn:Func) (s:ChangeSpec) (c:OpenClaim)=>((c.knobs== []):Bool)) Tryz.prog 10 Tryz.f10 Rows.provenanceHasSpec Rows.provenanceHasRow=true:=by kernel_rfl
theorem Ft:(λ(P:Program) (f:FuncId) (fn:Func) (s:ChangeSpec) (c:OpenClaim)=>((c.maps==(fn.params.toList++s.plain.varTypes P).any (P.mapsRec ·)):Bool)) Tryz.prog 10 Tryz.f10 Rows.provenanceHasSpec Rows.provenanceHasRow=true:=by kernel_rfl
theorem Fv:(λ(P:Program) (f:FuncId) (fn:Func) (s:ChangeSpec) (c:OpenClaim)=>((c.ifaces==(fn.params.toList++s.plain.varTypes P).any (P.ifacesRec ·)):Bool)) Tryz.prog 10 Tryz.f10 Rows.provenanceHasSpec Rows.provenanceHasRow=true:=by kernel_rfl
theorem Fz:(λ(P:Program) (f:FuncId) (fn:Func) (s:ChangeSpec) (c:OpenClaim)=>((c.mapsOut==P.mapsAmong fn.resultTypes.toList):Bool)) Tryz.prog 10 Tryz.f10 Rows.provenanceHasSpec Rows.provenanceHasRow=true:=by kernel_rfl
theorem FA:(λ(P:Program) (f:FuncId) (fn:Func) (s:ChangeSpec) (c:OpenClaim)=>((c.loops==(fn.params.toList++s.plain.varTypes P).any (P.loopsFrom ·)):Bool)) Tryz.prog 10 Tryz.f10 Rows.provenanceHasSpec Rows.provenanceHasRow=true:=by kernel_rfl
theorem FB:(λ(P:Program) (f:FuncId) (fn:Func) (s:ChangeSpec) (c:OpenClaim)=>((c.wideKeys==(fn.params.toList++s.plain.varTypes P++fn.resultTypes.toList).any (P.wideKeysFrom ·)):Bool)) Tryz.prog 10 Tryz.f10 Rows.provenanceHasSpec Rows.provenanceHasRow=true:=by kernel_rfl
theorem FC:(λ(P:Program) (f:FuncId) (fn:Func) (s:ChangeSpec) (c:OpenClaim)=>(s.vars.all (P.varReadable ·):Bool)) Tryz.prog 10 Tryz.f10 Rows.provenanceHasSpec Rows.provenanceHasRow=true:=by kernel_rfl
theorem FD:(λ(P:Program) (f:FuncId) (fn:Func) (s:ChangeSpec) (c:OpenClaim)=>(fn.resultTypes.all (λt=>P.readableRec t&&decide (t<P.types.size)):Bool)) Tryz.prog 10 Tryz.f10 Rows.provenanceHasSpec Rows.provenanceHasRow=true:=by kernel_rfl
theorem FF:(λ(P:Program) (f:FuncId) (fn:Func) (s:ChangeSpec) (c:OpenClaim)=>((c.ifacesOut==fn.resultTypes.toList.any (P.ifacesRec ·)):Bool)) Tryz.prog 10 Tryz.f10 Rows.provenanceHasSpec Rows.provenanceHasRow=true:=by kernel_rfl
theorem FG:(λ(P:Program) (f:FuncId) (fn:Func) (s:ChangeSpec) (c:OpenClaim)=>((c.loopsOut==fn.resultTypes.toList.any (P.loopsFrom ·)):Bool)) Tryz.prog 10 Tryz.f10 Rows.provenanceHasSpec Rows.provenanceHasRow=true:=by kernel_rfl
theorem FH:(λ(P:Program) (f:FuncId) (fn:Func) (s:ChangeSpec) (c:OpenClaim)=>((c.plainKeys==P.plainKeys):Bool)) Tryz.prog 10 Tryz.f10 Rows.provenanceHasSpec Rows.provenanceHasRow=true:=by kernel_rfl
theorem FI:(λ(P:Program) (f:FuncId) (fn:Func) (s:ChangeSpec) (c:OpenClaim)=>(c.shortTexts.isNone:Bool)) Tryz.prog 10 Tryz.f10 Rows.provenanceHasSpec Rows.provenanceHasRow=true:=by kernel_rfl
theorem FN:(λ(P:Program) (f:FuncId) (fn:Func) (s:ChangeSpec) (c:OpenClaim)=>((c.kinds==(if c.domain.isEmpty then [] else fn.params.toList.map λt=>match P.underlying t with|some (.int k)=>some k|_=>none)):Bool)) Tryz.prog 10 Tryz.f10 Rows.provenanceHasSpec Rows.provenanceHasRow=true:=by kernel_rfl
theorem FO:(λ(P:Program) (f:FuncId) (fn:Func) (s:ChangeSpec) (c:OpenClaim)=>((c.pinned==c.pinnedBy):Bool)) Tryz.prog 10 Tryz.f10 Rows.provenanceHasSpec Rows.provenanceHasRow=true:=by kernel_rfl
theorem FP:(λ(P:Program) (f:FuncId) (fn:Func) (s:ChangeSpec) (c:OpenClaim)=>((c.veiled==(fn.params.toList++s.plain.varTypes P++fn.resultTypes.toList).any (P.veiledRec ·)):Bool)) Tryz.prog 10 Tryz.f10 Rows.provenanceHasSpec Rows.provenanceHasRow=true:=by kernel_rfl
theorem FQ:(λ(P:Program) (f:FuncId) (fn:Func) (s:ChangeSpec) (c:OpenClaim)=>(c.veiledFits P fn.params.toList (fn.params.toList++s.plain.varTypes P++fn.resultTypes.toList):Bool)) Tryz.prog 10 Tryz.f10 Rows.provenanceHasSpec Rows.provenanceHasRow=true:=by kernel_rfl
theorem qx{a b:Bool}(h1:a=true)(h2:b=true):(a&&b)=true:=by rw[h1,h2];rfl
theorem VC:joinedFacts Tryz.prog 10 Tryz.f10 Rows.provenanceHasSpec Rows.provenanceHasRow=true:=by
 unfold joinedFacts;refine qx ?_ (by exact FQ);refine qx ?_ (by exact FP);refine qx ?_ (by exact FO);refine qx ?_ (by exact FN);refine qx ?_ (by exact FM);refine qx ?_ (by exact FL);refine qx ?_ (by exact qcK);refine qx ?_ (by exact qcJ);refine qx ?_ (by exact FI);refine qx ?_ (by exact FH);refine qx ?_ (by exact FG);refine qx ?_ (by exact FF);refine qx ?_ (by exact FD);refine qx ?_ (by exact FC);refine qx ?_ (by exact FB);refine qx ?_ (by exact FA);refine qx ?_ (by exact Fz);refine qx ?_ (by exact Fv);refine qx ?_ (by exact Ft);refine qx ?_ (by exact Fq);refine qx ?_ (by exact Fp);refine qx ?_ (by exact Fj);refine qx ?_ (by exact PU);refine qx ?_ (by exact wp8);refine qx ?_ (by exact PS);refine qx ?_ (by exact wp6);refine qx ?_ (by exact PR);refine qx ?_ (by exact PQ);refine qx ?_ (by exact PP);refine qx ?_ (by exact wp2);refine qx ?_ (by exact wp1);exact PO
end Go.Proofs.YtiiegfkjmnoijaaGreatDoor
