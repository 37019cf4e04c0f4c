import Derived.Test.YthjkfdakolejgaaGreatDoorRows
import Derived.JoinedOf
import Derived.KernelRfl
import Derived.Test.YthjkfdakolejgaaGreatDoorK0
import Derived.Test.YthjkfdakolejgaaGreatDoorK19
import Derived.Test.YthjkfdakolejgaaGreatDoorK20
import Derived.Test.YthjkfdakolejgaaGreatDoorK21
import Derived.Test.YthjkfdakolejgaaGreatDoorK22
import Derived.Test.YthjkfdakolejgaaGreatDoorK23
import Derived.Test.YthjkfdakolejgaaGreatDoorK24
set_option linter.all false
set_option linter.unusedSimpArgs false
set_option linter.unusedVariables false
set_option linter.unusedSectionVars false
namespace Go.Proofs.YthjkfdakolejgaaGreatDoor
open Go
set_option maxRecDepth 100000
theorem qD4:(fun (P:Program) (f:FuncId) (fn:Func) (s:ChangeSpec) (c:OpenClaim)=>(c.wf (OpenSpec.ofChange s):Bool)) Tryz.prog 7 Tryz.f7 Rows.decisionOthersSpec Rows.decisionOthersRow=true:=by kernel_rfl
theorem qD5:(fun (P:Program) (f:FuncId) (fn:Func) (s:ChangeSpec) (c:OpenClaim)=>(fn.params.all (P.readableRec ·):Bool)) Tryz.prog 7 Tryz.f7 Rows.decisionOthersSpec Rows.decisionOthersRow=true:=by kernel_rfl
theorem qD6:(fun (P:Program) (f:FuncId) (fn:Func) (s:ChangeSpec) (c:OpenClaim)=>(namedTie P c.named s.vars:Bool)) Tryz.prog 7 Tryz.f7 Rows.decisionOthersSpec Rows.decisionOthersRow=true:=by kernel_rfl
theorem qD7:(fun (P:Program) (f:FuncId) (fn:Func) (s:ChangeSpec) (c:OpenClaim)=>((c.stops== []):Bool)) Tryz.prog 7 Tryz.f7 Rows.decisionOthersSpec Rows.decisionOthersRow=true:=by kernel_rfl
theorem qD8:(fun (P:Program) (f:FuncId) (fn:Func) (s:ChangeSpec) (c:OpenClaim)=>((c.knobs== []):Bool)) Tryz.prog 7 Tryz.f7 Rows.decisionOthersSpec Rows.decisionOthersRow=true:=by kernel_rfl
theorem qBz:(fun (P:Program) (f:FuncId) (fn:Func) (s:ChangeSpec) (c:OpenClaim)=>((c.maps==(fn.params.toList++s.plain.varTypes P).any (P.mapsRec ·)):Bool)) Tryz.prog 7 Tryz.f7 Rows.decisionOthersSpec Rows.decisionOthersRow=true:=by kernel_rfl
theorem qBA:(fun (P:Program) (f:FuncId) (fn:Func) (s:ChangeSpec) (c:OpenClaim)=>((c.ifaces==(fn.params.toList++s.plain.varTypes P).any (P.ifacesRec ·)):Bool)) Tryz.prog 7 Tryz.f7 Rows.decisionOthersSpec Rows.decisionOthersRow=true:=by kernel_rfl
theorem qBB:(fun (P:Program) (f:FuncId) (fn:Func) (s:ChangeSpec) (c:OpenClaim)=>((c.mapsOut==P.mapsAmong fn.resultTypes.toList):Bool)) Tryz.prog 7 Tryz.f7 Rows.decisionOthersSpec Rows.decisionOthersRow=true:=by kernel_rfl
theorem qBC:(fun (P:Program) (f:FuncId) (fn:Func) (s:ChangeSpec) (c:OpenClaim)=>((c.loops==(fn.params.toList++s.plain.varTypes P).any (P.loopsFrom ·)):Bool)) Tryz.prog 7 Tryz.f7 Rows.decisionOthersSpec Rows.decisionOthersRow=true:=by kernel_rfl
theorem qBD:(fun (P:Program) (f:FuncId) (fn:Func) (s:ChangeSpec) (c:OpenClaim)=>((c.wideKeys==(fn.params.toList++s.plain.varTypes P++fn.resultTypes.toList).any (P.wideKeysFrom ·)):Bool)) Tryz.prog 7 Tryz.f7 Rows.decisionOthersSpec Rows.decisionOthersRow=true:=by kernel_rfl
theorem qBE:(fun (P:Program) (f:FuncId) (fn:Func) (s:ChangeSpec) (c:OpenClaim)=>(s.vars.all (P.varReadable ·):Bool)) Tryz.prog 7 Tryz.f7 Rows.decisionOthersSpec Rows.decisionOthersRow=true:=by kernel_rfl
theorem qBF:(fun (P:Program) (f:FuncId) (fn:Func) (s:ChangeSpec) (c:OpenClaim)=>(fn.resultTypes.all (fun t=>P.readableRec t&&decide (t<P.types.size)):Bool)) Tryz.prog 7 Tryz.f7 Rows.decisionOthersSpec Rows.decisionOthersRow=true:=by kernel_rfl
theorem qBG:(fun (P:Program) (f:FuncId) (fn:Func) (s:ChangeSpec) (c:OpenClaim)=>((c.ifacesOut==fn.resultTypes.toList.any (P.ifacesRec ·)):Bool)) Tryz.prog 7 Tryz.f7 Rows.decisionOthersSpec Rows.decisionOthersRow=true:=by kernel_rfl
theorem qBH:(fun (P:Program) (f:FuncId) (fn:Func) (s:ChangeSpec) (c:OpenClaim)=>((c.loopsOut==fn.resultTypes.toList.any (P.loopsFrom ·)):Bool)) Tryz.prog 7 Tryz.f7 Rows.decisionOthersSpec Rows.decisionOthersRow=true:=by kernel_rfl
theorem qBI:(fun (P:Program) (f:FuncId) (fn:Func) (s:ChangeSpec) (c:OpenClaim)=>((c.plainKeys==P.plainKeys):Bool)) Tryz.prog 7 Tryz.f7 Rows.decisionOthersSpec Rows.decisionOthersRow=true:=by kernel_rfl
theorem qBJ:(fun (P:Program) (f:FuncId) (fn:Func) (s:ChangeSpec) (c:OpenClaim)=>(c.shortTexts.isNone:Bool)) Tryz.prog 7 Tryz.f7 Rows.decisionOthersSpec Rows.decisionOthersRow=true:=by kernel_rfl
theorem qBM:(fun (P:Program) (f:FuncId) (fn:Func) (s:ChangeSpec) (c:OpenClaim)=>((c.kinds==(if c.domain.isEmpty then [] else fn.params.toList.map fun t=>match P.underlying t with|some (.int k)=>some k|_=>none)):Bool)) Tryz.prog 7 Tryz.f7 Rows.decisionOthersSpec Rows.decisionOthersRow=true:=by kernel_rfl
theorem qBN:(fun (P:Program) (f:FuncId) (fn:Func) (s:ChangeSpec) (c:OpenClaim)=>((c.pinned==c.pinnedBy):Bool)) Tryz.prog 7 Tryz.f7 Rows.decisionOthersSpec Rows.decisionOthersRow=true:=by kernel_rfl
theorem qBO:(fun (P:Program) (f:FuncId) (fn:Func) (s:ChangeSpec) (c:OpenClaim)=>((c.veiled==(fn.params.toList++s.plain.varTypes P++fn.resultTypes.toList).any (P.veiledRec ·)):Bool)) Tryz.prog 7 Tryz.f7 Rows.decisionOthersSpec Rows.decisionOthersRow=true:=by kernel_rfl
theorem qBP:(fun (P:Program) (f:FuncId) (fn:Func) (s:ChangeSpec) (c:OpenClaim)=>(c.veiledFits P fn.params.toList (fn.params.toList++s.plain.varTypes P++fn.resultTypes.toList):Bool)) Tryz.prog 7 Tryz.f7 Rows.decisionOthersSpec Rows.decisionOthersRow=true:=by kernel_rfl
theorem qz{a b:Bool}(h1:a=true)(h2:b=true):(a&&b)=true:=by rw[h1,h2];rfl
theorem qtQ:joinedFacts Tryz.prog 7 Tryz.f7 Rows.decisionOthersSpec Rows.decisionOthersRow=true:=by
 unfold joinedFacts;refine qz ?_ (by exact qBP);refine qz ?_ (by exact qBO);refine qz ?_ (by exact qBN);refine qz ?_ (by exact qBM);refine qz ?_ (by exact qBL);refine qz ?_ (by exact qBK);refine qz ?_ (by exact qF3);refine qz ?_ (by exact qF2);refine qz ?_ (by exact qBJ);refine qz ?_ (by exact qBI);refine qz ?_ (by exact qBH);refine qz ?_ (by exact qBG);refine qz ?_ (by exact qBF);refine qz ?_ (by exact qBE);refine qz ?_ (by exact qBD);refine qz ?_ (by exact qBC);refine qz ?_ (by exact qBB);refine qz ?_ (by exact qBA);refine qz ?_ (by exact qBz);refine qz ?_ (by exact qBy);refine qz ?_ (by exact qBx);refine qz ?_ (by exact qBw);refine qz ?_ (by exact qD9);refine qz ?_ (by exact wp8);refine qz ?_ (by exact qD8);refine qz ?_ (by exact wp6);refine qz ?_ (by exact qD7);refine qz ?_ (by exact qD6);refine qz ?_ (by exact qD5);refine qz ?_ (by exact wp2);refine qz ?_ (by exact wp1);exact qD4
end Go.Proofs.YthjkfdakolejgaaGreatDoor
