import Derived.Test.YtiiegfkjmnoijaaGreatDoorRows
import Derived.JoinedOf
import Derived.KernelRfl
import Derived.Test.YtiiegfkjmnoijaaGreatDoorK0
import Derived.Test.YtiiegfkjmnoijaaGreatDoorK21
import Derived.Test.YtiiegfkjmnoijaaGreatDoorK22
import Derived.Test.YtiiegfkjmnoijaaGreatDoorK35
import Derived.Test.YtiiegfkjmnoijaaGreatDoorK36
import Derived.Test.YtiiegfkjmnoijaaGreatDoorK37
import Derived.Test.YtiiegfkjmnoijaaGreatDoorK38
set_option linter.all false
namespace Go.Proofs.YtiiegfkjmnoijaaGreatDoor
open Go
set_option maxRecDepth 100000
theorem qC6:(λ(P:Program) (f:FuncId) (fn:Func) (s:ChangeSpec) (c:OpenClaim)=>(c.wf (OpenSpec.ofChange s):Bool)) Tryz.prog 14 Tryz.f14 Rows.provenanceUnsupportedSpec Rows.provenanceUnsupportedRow=true:=by kernel_rfl
theorem qC7:(λ(P:Program) (f:FuncId) (fn:Func) (s:ChangeSpec) (c:OpenClaim)=>(fn.params.all (P.readableRec ·):Bool)) Tryz.prog 14 Tryz.f14 Rows.provenanceUnsupportedSpec Rows.provenanceUnsupportedRow=true:=by kernel_rfl
theorem qC8:(λ(P:Program) (f:FuncId) (fn:Func) (s:ChangeSpec) (c:OpenClaim)=>(namedTie P c.named s.vars:Bool)) Tryz.prog 14 Tryz.f14 Rows.provenanceUnsupportedSpec Rows.provenanceUnsupportedRow=true:=by kernel_rfl
theorem qC9:(λ(P:Program) (f:FuncId) (fn:Func) (s:ChangeSpec) (c:OpenClaim)=>((c.stops== []):Bool)) Tryz.prog 14 Tryz.f14 Rows.provenanceUnsupportedSpec Rows.provenanceUnsupportedRow=true:=by kernel_rfl
theorem qDa:(λ(P:Program) (f:FuncId) (fn:Func) (s:ChangeSpec) (c:OpenClaim)=>((c.knobs== []):Bool)) Tryz.prog 14 Tryz.f14 Rows.provenanceUnsupportedSpec Rows.provenanceUnsupportedRow=true:=by kernel_rfl
theorem qwx:(λ(P:Program) (f:FuncId) (fn:Func) (s:ChangeSpec) (c:OpenClaim)=>((c.maps==(fn.params.toList++s.plain.varTypes P).any (P.mapsRec ·)):Bool)) Tryz.prog 14 Tryz.f14 Rows.provenanceUnsupportedSpec Rows.provenanceUnsupportedRow=true:=by kernel_rfl
theorem qwy:(λ(P:Program) (f:FuncId) (fn:Func) (s:ChangeSpec) (c:OpenClaim)=>((c.ifaces==(fn.params.toList++s.plain.varTypes P).any (P.ifacesRec ·)):Bool)) Tryz.prog 14 Tryz.f14 Rows.provenanceUnsupportedSpec Rows.provenanceUnsupportedRow=true:=by kernel_rfl
theorem qwz:(λ(P:Program) (f:FuncId) (fn:Func) (s:ChangeSpec) (c:OpenClaim)=>((c.mapsOut==P.mapsAmong fn.resultTypes.toList):Bool)) Tryz.prog 14 Tryz.f14 Rows.provenanceUnsupportedSpec Rows.provenanceUnsupportedRow=true:=by kernel_rfl
theorem qwA:(λ(P:Program) (f:FuncId) (fn:Func) (s:ChangeSpec) (c:OpenClaim)=>((c.loops==(fn.params.toList++s.plain.varTypes P).any (P.loopsFrom ·)):Bool)) Tryz.prog 14 Tryz.f14 Rows.provenanceUnsupportedSpec Rows.provenanceUnsupportedRow=true:=by kernel_rfl
theorem qwB:(λ(P:Program) (f:FuncId) (fn:Func) (s:ChangeSpec) (c:OpenClaim)=>((c.wideKeys==(fn.params.toList++s.plain.varTypes P++fn.resultTypes.toList).any (P.wideKeysFrom ·)):Bool)) Tryz.prog 14 Tryz.f14 Rows.provenanceUnsupportedSpec Rows.provenanceUnsupportedRow=true:=by kernel_rfl
theorem qwC:(λ(P:Program) (f:FuncId) (fn:Func) (s:ChangeSpec) (c:OpenClaim)=>(s.vars.all (P.varReadable ·):Bool)) Tryz.prog 14 Tryz.f14 Rows.provenanceUnsupportedSpec Rows.provenanceUnsupportedRow=true:=by kernel_rfl
theorem qwD:(λ(P:Program) (f:FuncId) (fn:Func) (s:ChangeSpec) (c:OpenClaim)=>(fn.resultTypes.all (λt=>P.readableRec t&&decide (t<P.types.size)):Bool)) Tryz.prog 14 Tryz.f14 Rows.provenanceUnsupportedSpec Rows.provenanceUnsupportedRow=true:=by kernel_rfl
theorem qwE:(λ(P:Program) (f:FuncId) (fn:Func) (s:ChangeSpec) (c:OpenClaim)=>((c.ifacesOut==fn.resultTypes.toList.any (P.ifacesRec ·)):Bool)) Tryz.prog 14 Tryz.f14 Rows.provenanceUnsupportedSpec Rows.provenanceUnsupportedRow=true:=by kernel_rfl
theorem qwF:(λ(P:Program) (f:FuncId) (fn:Func) (s:ChangeSpec) (c:OpenClaim)=>((c.loopsOut==fn.resultTypes.toList.any (P.loopsFrom ·)):Bool)) Tryz.prog 14 Tryz.f14 Rows.provenanceUnsupportedSpec Rows.provenanceUnsupportedRow=true:=by kernel_rfl
theorem qwG:(λ(P:Program) (f:FuncId) (fn:Func) (s:ChangeSpec) (c:OpenClaim)=>((c.plainKeys==P.plainKeys):Bool)) Tryz.prog 14 Tryz.f14 Rows.provenanceUnsupportedSpec Rows.provenanceUnsupportedRow=true:=by kernel_rfl
theorem qwH:(λ(P:Program) (f:FuncId) (fn:Func) (s:ChangeSpec) (c:OpenClaim)=>(c.shortTexts.isNone:Bool)) Tryz.prog 14 Tryz.f14 Rows.provenanceUnsupportedSpec Rows.provenanceUnsupportedRow=true:=by kernel_rfl
theorem qwK:(λ(P:Program) (f:FuncId) (fn:Func) (s:ChangeSpec) (c:OpenClaim)=>((c.kinds==(if c.domain.isEmpty then [] else fn.params.toList.map λt=>match P.underlying t with|some (.int k)=>some k|_=>none)):Bool)) Tryz.prog 14 Tryz.f14 Rows.provenanceUnsupportedSpec Rows.provenanceUnsupportedRow=true:=by kernel_rfl
theorem qwL:(λ(P:Program) (f:FuncId) (fn:Func) (s:ChangeSpec) (c:OpenClaim)=>((c.pinned==c.pinnedBy):Bool)) Tryz.prog 14 Tryz.f14 Rows.provenanceUnsupportedSpec Rows.provenanceUnsupportedRow=true:=by kernel_rfl
theorem qwM:(λ(P:Program) (f:FuncId) (fn:Func) (s:ChangeSpec) (c:OpenClaim)=>((c.veiled==(fn.params.toList++s.plain.varTypes P++fn.resultTypes.toList).any (P.veiledRec ·)):Bool)) Tryz.prog 14 Tryz.f14 Rows.provenanceUnsupportedSpec Rows.provenanceUnsupportedRow=true:=by kernel_rfl
theorem qwN:(λ(P:Program) (f:FuncId) (fn:Func) (s:ChangeSpec) (c:OpenClaim)=>(c.veiledFits P fn.params.toList (fn.params.toList++s.plain.varTypes P++fn.resultTypes.toList):Bool)) Tryz.prog 14 Tryz.f14 Rows.provenanceUnsupportedSpec Rows.provenanceUnsupportedRow=true:=by kernel_rfl
theorem qz{a b:Bool}(h1:a=true)(h2:b=true):(a&&b)=true:=by rw[h1,h2];rfl
theorem qow:joinedFacts Tryz.prog 14 Tryz.f14 Rows.provenanceUnsupportedSpec Rows.provenanceUnsupportedRow=true:=by
 unfold joinedFacts;refine qz ?_ (by exact qwN);refine qz ?_ (by exact qwM);refine qz ?_ (by exact qwL);refine qz ?_ (by exact qwK);refine qz ?_ (by exact qwJ);refine qz ?_ (by exact qwI);refine qz ?_ (by exact qFD);refine qz ?_ (by exact qFC);refine qz ?_ (by exact qwH);refine qz ?_ (by exact qwG);refine qz ?_ (by exact qwF);refine qz ?_ (by exact qwE);refine qz ?_ (by exact qwD);refine qz ?_ (by exact qwC);refine qz ?_ (by exact qwB);refine qz ?_ (by exact qwA);refine qz ?_ (by exact qwz);refine qz ?_ (by exact qwy);refine qz ?_ (by exact qwx);refine qz ?_ (by exact qww);refine qz ?_ (by exact qwv);refine qz ?_ (by exact qwu);refine qz ?_ (by exact qDb);refine qz ?_ (by exact wp8);refine qz ?_ (by exact qDa);refine qz ?_ (by exact wp6);refine qz ?_ (by exact qC9);refine qz ?_ (by exact qC8);refine qz ?_ (by exact qC7);refine qz ?_ (by exact wp2);refine qz ?_ (by exact wp1);exact qC6
end Go.Proofs.YtiiegfkjmnoijaaGreatDoor
