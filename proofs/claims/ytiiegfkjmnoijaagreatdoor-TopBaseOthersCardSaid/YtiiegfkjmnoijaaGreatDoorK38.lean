import Derived.Test.YtiiegfkjmnoijaaGreatDoorRows
import Derived.JoinedOf
import Derived.KernelRfl
import Derived.Test.YtiiegfkjmnoijaaGreatDoorK0
import Derived.Test.YtiiegfkjmnoijaaGreatDoorK20
import Derived.Test.YtiiegfkjmnoijaaGreatDoorK21
import Derived.Test.YtiiegfkjmnoijaaGreatDoorK34
import Derived.Test.YtiiegfkjmnoijaaGreatDoorK35
import Derived.Test.YtiiegfkjmnoijaaGreatDoorK36
import Derived.Test.YtiiegfkjmnoijaaGreatDoorK37
set_option linter.all false
namespace Go.Proofs.YtiiegfkjmnoijaaGreatDoor
open Go
set_option maxRecDepth 100000
theorem qdT:(λ(P:Program) (f:FuncId) (fn:Func) (s:ChangeSpec) (c:OpenClaim)=>(c.wf (OpenSpec.ofChange s):Bool)) Tryz.prog 4 Tryz.f4 Rows.topBaseOthersSpec Rows.topBaseOthersRow=true:=by kernel_rfl
theorem qdU:(λ(P:Program) (f:FuncId) (fn:Func) (s:ChangeSpec) (c:OpenClaim)=>(fn.params.all (P.readableRec ·):Bool)) Tryz.prog 4 Tryz.f4 Rows.topBaseOthersSpec Rows.topBaseOthersRow=true:=by kernel_rfl
theorem qdV:(λ(P:Program) (f:FuncId) (fn:Func) (s:ChangeSpec) (c:OpenClaim)=>(namedTie P c.named s.vars:Bool)) Tryz.prog 4 Tryz.f4 Rows.topBaseOthersSpec Rows.topBaseOthersRow=true:=by kernel_rfl
theorem qdW:(λ(P:Program) (f:FuncId) (fn:Func) (s:ChangeSpec) (c:OpenClaim)=>((c.stops== []):Bool)) Tryz.prog 4 Tryz.f4 Rows.topBaseOthersSpec Rows.topBaseOthersRow=true:=by kernel_rfl
theorem qdX:(λ(P:Program) (f:FuncId) (fn:Func) (s:ChangeSpec) (c:OpenClaim)=>((c.knobs== []):Bool)) Tryz.prog 4 Tryz.f4 Rows.topBaseOthersSpec Rows.topBaseOthersRow=true:=by kernel_rfl
theorem qaG:(λ(P:Program) (f:FuncId) (fn:Func) (s:ChangeSpec) (c:OpenClaim)=>((c.maps==(fn.params.toList++s.plain.varTypes P).any (P.mapsRec ·)):Bool)) Tryz.prog 4 Tryz.f4 Rows.topBaseOthersSpec Rows.topBaseOthersRow=true:=by kernel_rfl
theorem qaH:(λ(P:Program) (f:FuncId) (fn:Func) (s:ChangeSpec) (c:OpenClaim)=>((c.ifaces==(fn.params.toList++s.plain.varTypes P).any (P.ifacesRec ·)):Bool)) Tryz.prog 4 Tryz.f4 Rows.topBaseOthersSpec Rows.topBaseOthersRow=true:=by kernel_rfl
theorem qaI:(λ(P:Program) (f:FuncId) (fn:Func) (s:ChangeSpec) (c:OpenClaim)=>((c.mapsOut==P.mapsAmong fn.resultTypes.toList):Bool)) Tryz.prog 4 Tryz.f4 Rows.topBaseOthersSpec Rows.topBaseOthersRow=true:=by kernel_rfl
theorem qaJ:(λ(P:Program) (f:FuncId) (fn:Func) (s:ChangeSpec) (c:OpenClaim)=>((c.loops==(fn.params.toList++s.plain.varTypes P).any (P.loopsFrom ·)):Bool)) Tryz.prog 4 Tryz.f4 Rows.topBaseOthersSpec Rows.topBaseOthersRow=true:=by kernel_rfl
theorem qaK:(λ(P:Program) (f:FuncId) (fn:Func) (s:ChangeSpec) (c:OpenClaim)=>((c.wideKeys==(fn.params.toList++s.plain.varTypes P++fn.resultTypes.toList).any (P.wideKeysFrom ·)):Bool)) Tryz.prog 4 Tryz.f4 Rows.topBaseOthersSpec Rows.topBaseOthersRow=true:=by kernel_rfl
theorem qaL:(λ(P:Program) (f:FuncId) (fn:Func) (s:ChangeSpec) (c:OpenClaim)=>(s.vars.all (P.varReadable ·):Bool)) Tryz.prog 4 Tryz.f4 Rows.topBaseOthersSpec Rows.topBaseOthersRow=true:=by kernel_rfl
theorem qaM:(λ(P:Program) (f:FuncId) (fn:Func) (s:ChangeSpec) (c:OpenClaim)=>(fn.resultTypes.all (λt=>P.readableRec t&&decide (t<P.types.size)):Bool)) Tryz.prog 4 Tryz.f4 Rows.topBaseOthersSpec Rows.topBaseOthersRow=true:=by kernel_rfl
theorem qaN:(λ(P:Program) (f:FuncId) (fn:Func) (s:ChangeSpec) (c:OpenClaim)=>((c.ifacesOut==fn.resultTypes.toList.any (P.ifacesRec ·)):Bool)) Tryz.prog 4 Tryz.f4 Rows.topBaseOthersSpec Rows.topBaseOthersRow=true:=by kernel_rfl
theorem qaO:(λ(P:Program) (f:FuncId) (fn:Func) (s:ChangeSpec) (c:OpenClaim)=>((c.loopsOut==fn.resultTypes.toList.any (P.loopsFrom ·)):Bool)) Tryz.prog 4 Tryz.f4 Rows.topBaseOthersSpec Rows.topBaseOthersRow=true:=by kernel_rfl
theorem qaP:(λ(P:Program) (f:FuncId) (fn:Func) (s:ChangeSpec) (c:OpenClaim)=>((c.plainKeys==P.plainKeys):Bool)) Tryz.prog 4 Tryz.f4 Rows.topBaseOthersSpec Rows.topBaseOthersRow=true:=by kernel_rfl
theorem qaQ:(λ(P:Program) (f:FuncId) (fn:Func) (s:ChangeSpec) (c:OpenClaim)=>(c.shortTexts.isNone:Bool)) Tryz.prog 4 Tryz.f4 Rows.topBaseOthersSpec Rows.topBaseOthersRow=true:=by kernel_rfl
theorem qaT:(λ(P:Program) (f:FuncId) (fn:Func) (s:ChangeSpec) (c:OpenClaim)=>((c.kinds==(if c.domain.isEmpty then [] else fn.params.toList.map λt=>match P.underlying t with|some (.int k)=>some k|_=>none)):Bool)) Tryz.prog 4 Tryz.f4 Rows.topBaseOthersSpec Rows.topBaseOthersRow=true:=by kernel_rfl
theorem qaU:(λ(P:Program) (f:FuncId) (fn:Func) (s:ChangeSpec) (c:OpenClaim)=>((c.pinned==c.pinnedBy):Bool)) Tryz.prog 4 Tryz.f4 Rows.topBaseOthersSpec Rows.topBaseOthersRow=true:=by kernel_rfl
theorem qaV:(λ(P:Program) (f:FuncId) (fn:Func) (s:ChangeSpec) (c:OpenClaim)=>((c.veiled==(fn.params.toList++s.plain.varTypes P++fn.resultTypes.toList).any (P.veiledRec ·)):Bool)) Tryz.prog 4 Tryz.f4 Rows.topBaseOthersSpec Rows.topBaseOthersRow=true:=by kernel_rfl
theorem qaW:(λ(P:Program) (f:FuncId) (fn:Func) (s:ChangeSpec) (c:OpenClaim)=>(c.veiledFits P fn.params.toList (fn.params.toList++s.plain.varTypes P++fn.resultTypes.toList):Bool)) Tryz.prog 4 Tryz.f4 Rows.topBaseOthersSpec Rows.topBaseOthersRow=true:=by kernel_rfl
theorem qG{a b:Bool}(h1:a=true)(h2:b=true):(a&&b)=true:=by rw[h1,h2];rfl
theorem Dq:joinedFacts Tryz.prog 4 Tryz.f4 Rows.topBaseOthersSpec Rows.topBaseOthersRow=true:=by
 unfold joinedFacts;refine qG ?_ (by exact qaW);refine qG ?_ (by exact qaV);refine qG ?_ (by exact qaU);refine qG ?_ (by exact qaT);refine qG ?_ (by exact qaS);refine qG ?_ (by exact qaR);refine qG ?_ (by exact qea);refine qG ?_ (by exact qd9);refine qG ?_ (by exact qaQ);refine qG ?_ (by exact qaP);refine qG ?_ (by exact qaO);refine qG ?_ (by exact qaN);refine qG ?_ (by exact qaM);refine qG ?_ (by exact qaL);refine qG ?_ (by exact qaK);refine qG ?_ (by exact qaJ);refine qG ?_ (by exact qaI);refine qG ?_ (by exact qaH);refine qG ?_ (by exact qaG);refine qG ?_ (by exact qaF);refine qG ?_ (by exact qaE);refine qG ?_ (by exact qaD);refine qG ?_ (by exact qdY);refine qG ?_ (by exact wp8);refine qG ?_ (by exact qdX);refine qG ?_ (by exact wp6);refine qG ?_ (by exact qdW);refine qG ?_ (by exact qdV);refine qG ?_ (by exact qdU);refine qG ?_ (by exact wp2);refine qG ?_ (by exact wp1);exact qdT
end Go.Proofs.YtiiegfkjmnoijaaGreatDoor
