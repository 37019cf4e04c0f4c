import Derived.Test.YtiiegfkjmnoijaaGreatDoorRows
import Derived.JoinedOf
import Derived.KernelRfl
import Derived.Test.YtiiegfkjmnoijaaGreatDoorK0
import Derived.Test.YtiiegfkjmnoijaaGreatDoorK20
import Derived.Test.YtiiegfkjmnoijaaGreatDoorK21
import Derived.Test.YtiiegfkjmnoijaaGreatDoorK34
import Derived.Test.YtiiegfkjmnoijaaGreatDoorK35
import Derived.Test.YtiiegfkjmnoijaaGreatDoorK36
import Derived.Test.YtiiegfkjmnoijaaGreatDoorK37
set_option linter.all false
namespace Go.Proofs.YtiiegfkjmnoijaaGreatDoor
open Go
set_option maxRecDepth 100000
theorem qcz:(λ(P:Program) (f:FuncId) (fn:Func) (s:ChangeSpec) (c:OpenClaim)=>(c.wf (OpenSpec.ofChange s):Bool)) Tryz.prog 9 Tryz.f9 Rows.provenancePositionsSpec Rows.provenancePositionsRow=true:=by kernel_rfl
theorem qcA:(λ(P:Program) (f:FuncId) (fn:Func) (s:ChangeSpec) (c:OpenClaim)=>(fn.params.all (P.readableRec ·):Bool)) Tryz.prog 9 Tryz.f9 Rows.provenancePositionsSpec Rows.provenancePositionsRow=true:=by kernel_rfl
theorem qcB:(λ(P:Program) (f:FuncId) (fn:Func) (s:ChangeSpec) (c:OpenClaim)=>(namedTie P c.named s.vars:Bool)) Tryz.prog 9 Tryz.f9 Rows.provenancePositionsSpec Rows.provenancePositionsRow=true:=by kernel_rfl
theorem qcC:(λ(P:Program) (f:FuncId) (fn:Func) (s:ChangeSpec) (c:OpenClaim)=>((c.stops== []):Bool)) Tryz.prog 9 Tryz.f9 Rows.provenancePositionsSpec Rows.provenancePositionsRow=true:=by kernel_rfl
theorem qcD:(λ(P:Program) (f:FuncId) (fn:Func) (s:ChangeSpec) (c:OpenClaim)=>((c.knobs== []):Bool)) Tryz.prog 9 Tryz.f9 Rows.provenancePositionsSpec Rows.provenancePositionsRow=true:=by kernel_rfl
theorem Rr:(λ(P:Program) (f:FuncId) (fn:Func) (s:ChangeSpec) (c:OpenClaim)=>((c.maps==(fn.params.toList++s.plain.varTypes P).any (P.mapsRec ·)):Bool)) Tryz.prog 9 Tryz.f9 Rows.provenancePositionsSpec Rows.provenancePositionsRow=true:=by kernel_rfl
theorem Rt:(λ(P:Program) (f:FuncId) (fn:Func) (s:ChangeSpec) (c:OpenClaim)=>((c.ifaces==(fn.params.toList++s.plain.varTypes P).any (P.ifacesRec ·)):Bool)) Tryz.prog 9 Tryz.f9 Rows.provenancePositionsSpec Rows.provenancePositionsRow=true:=by kernel_rfl
theorem Ru:(λ(P:Program) (f:FuncId) (fn:Func) (s:ChangeSpec) (c:OpenClaim)=>((c.mapsOut==P.mapsAmong fn.resultTypes.toList):Bool)) Tryz.prog 9 Tryz.f9 Rows.provenancePositionsSpec Rows.provenancePositionsRow=true:=by kernel_rfl
theorem Rx:(λ(P:Program) (f:FuncId) (fn:Func) (s:ChangeSpec) (c:OpenClaim)=>((c.loops==(fn.params.toList++s.plain.varTypes P).any (P.loopsFrom ·)):Bool)) Tryz.prog 9 Tryz.f9 Rows.provenancePositionsSpec Rows.provenancePositionsRow=true:=by kernel_rfl
theorem Ry:(λ(P:Program) (f:FuncId) (fn:Func) (s:ChangeSpec) (c:OpenClaim)=>((c.wideKeys==(fn.params.toList++s.plain.varTypes P++fn.resultTypes.toList).any (P.wideKeysFrom ·)):Bool)) Tryz.prog 9 Tryz.f9 Rows.provenancePositionsSpec Rows.provenancePositionsRow=true:=by kernel_rfl
theorem Rz:(λ(P:Program) (f:FuncId) (fn:Func) (s:ChangeSpec) (c:OpenClaim)=>(s.vars.all (P.varReadable ·):Bool)) Tryz.prog 9 Tryz.f9 Rows.provenancePositionsSpec Rows.provenancePositionsRow=true:=by kernel_rfl
theorem RA:(λ(P:Program) (f:FuncId) (fn:Func) (s:ChangeSpec) (c:OpenClaim)=>(fn.resultTypes.all (λt=>P.readableRec t&&decide (t<P.types.size)):Bool)) Tryz.prog 9 Tryz.f9 Rows.provenancePositionsSpec Rows.provenancePositionsRow=true:=by kernel_rfl
theorem RB:(λ(P:Program) (f:FuncId) (fn:Func) (s:ChangeSpec) (c:OpenClaim)=>((c.ifacesOut==fn.resultTypes.toList.any (P.ifacesRec ·)):Bool)) Tryz.prog 9 Tryz.f9 Rows.provenancePositionsSpec Rows.provenancePositionsRow=true:=by kernel_rfl
theorem RD:(λ(P:Program) (f:FuncId) (fn:Func) (s:ChangeSpec) (c:OpenClaim)=>((c.loopsOut==fn.resultTypes.toList.any (P.loopsFrom ·)):Bool)) Tryz.prog 9 Tryz.f9 Rows.provenancePositionsSpec Rows.provenancePositionsRow=true:=by kernel_rfl
theorem RE:(λ(P:Program) (f:FuncId) (fn:Func) (s:ChangeSpec) (c:OpenClaim)=>((c.plainKeys==P.plainKeys):Bool)) Tryz.prog 9 Tryz.f9 Rows.provenancePositionsSpec Rows.provenancePositionsRow=true:=by kernel_rfl
theorem RF:(λ(P:Program) (f:FuncId) (fn:Func) (s:ChangeSpec) (c:OpenClaim)=>(c.shortTexts.isNone:Bool)) Tryz.prog 9 Tryz.f9 Rows.provenancePositionsSpec Rows.provenancePositionsRow=true:=by kernel_rfl
theorem RI:(λ(P:Program) (f:FuncId) (fn:Func) (s:ChangeSpec) (c:OpenClaim)=>((c.kinds==(if c.domain.isEmpty then [] else fn.params.toList.map λt=>match P.underlying t with|some (.int k)=>some k|_=>none)):Bool)) Tryz.prog 9 Tryz.f9 Rows.provenancePositionsSpec Rows.provenancePositionsRow=true:=by kernel_rfl
theorem RJ:(λ(P:Program) (f:FuncId) (fn:Func) (s:ChangeSpec) (c:OpenClaim)=>((c.pinned==c.pinnedBy):Bool)) Tryz.prog 9 Tryz.f9 Rows.provenancePositionsSpec Rows.provenancePositionsRow=true:=by kernel_rfl
theorem RL:(λ(P:Program) (f:FuncId) (fn:Func) (s:ChangeSpec) (c:OpenClaim)=>((c.veiled==(fn.params.toList++s.plain.varTypes P++fn.resultTypes.toList).any (P.veiledRec ·)):Bool)) Tryz.prog 9 Tryz.f9 Rows.provenancePositionsSpec Rows.provenancePositionsRow=true:=by kernel_rfl
theorem RN:(λ(P:Program) (f:FuncId) (fn:Func) (s:ChangeSpec) (c:OpenClaim)=>(c.veiledFits P fn.params.toList (fn.params.toList++s.plain.varTypes P++fn.resultTypes.toList):Bool)) Tryz.prog 9 Tryz.f9 Rows.provenancePositionsSpec Rows.provenancePositionsRow=true:=by kernel_rfl
theorem qG{a b:Bool}(h1:a=true)(h2:b=true):(a&&b)=true:=by rw[h1,h2];rfl
theorem BD:joinedFacts Tryz.prog 9 Tryz.f9 Rows.provenancePositionsSpec Rows.provenancePositionsRow=true:=by
 unfold joinedFacts;refine qG ?_ (by exact RN);refine qG ?_ (by exact RL);refine qG ?_ (by exact RJ);refine qG ?_ (by exact RI);refine qG ?_ (by exact RH);refine qG ?_ (by exact RG);refine qG ?_ (by exact qcK);refine qG ?_ (by exact qcJ);refine qG ?_ (by exact RF);refine qG ?_ (by exact RE);refine qG ?_ (by exact RD);refine qG ?_ (by exact RB);refine qG ?_ (by exact RA);refine qG ?_ (by exact Rz);refine qG ?_ (by exact Ry);refine qG ?_ (by exact Rx);refine qG ?_ (by exact Ru);refine qG ?_ (by exact Rt);refine qG ?_ (by exact Rr);refine qG ?_ (by exact Rq);refine qG ?_ (by exact Ro);refine qG ?_ (by exact Rn);refine qG ?_ (by exact qcE);refine qG ?_ (by exact wp8);refine qG ?_ (by exact qcD);refine qG ?_ (by exact wp6);refine qG ?_ (by exact qcC);refine qG ?_ (by exact qcB);refine qG ?_ (by exact qcA);refine qG ?_ (by exact wp2);refine qG ?_ (by exact wp1);exact qcz
end Go.Proofs.YtiiegfkjmnoijaaGreatDoor
