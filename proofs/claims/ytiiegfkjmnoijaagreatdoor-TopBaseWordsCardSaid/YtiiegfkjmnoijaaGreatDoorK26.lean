import Derived.Test.YtiiegfkjmnoijaaGreatDoorRows
import Derived.JoinedOf
import Derived.KernelRfl
import Derived.Test.YtiiegfkjmnoijaaGreatDoorK0
import Derived.Test.YtiiegfkjmnoijaaGreatDoorK20
import Derived.Test.YtiiegfkjmnoijaaGreatDoorK21
import Derived.Test.YtiiegfkjmnoijaaGreatDoorK22
import Derived.Test.YtiiegfkjmnoijaaGreatDoorK23
import Derived.Test.YtiiegfkjmnoijaaGreatDoorK24
import Derived.Test.YtiiegfkjmnoijaaGreatDoorK25
set_option linter.all false
namespace Go.Proofs.YtiiegfkjmnoijaaGreatDoor
open Go
set_option maxRecDepth 100000
theorem qdN:(λ(P:Program) (f:FuncId) (fn:Func) (s:ChangeSpec) (c:OpenClaim)=>(c.wf (OpenSpec.ofChange s):Bool)) Tryz.prog 3 Tryz.f3 Rows.topBaseWordsSpec Rows.topBaseWordsRow=true:=by kernel_rfl
theorem qdO:(λ(P:Program) (f:FuncId) (fn:Func) (s:ChangeSpec) (c:OpenClaim)=>(fn.params.all (P.readableRec ·):Bool)) Tryz.prog 3 Tryz.f3 Rows.topBaseWordsSpec Rows.topBaseWordsRow=true:=by kernel_rfl
theorem qdP:(λ(P:Program) (f:FuncId) (fn:Func) (s:ChangeSpec) (c:OpenClaim)=>(namedTie P c.named s.vars:Bool)) Tryz.prog 3 Tryz.f3 Rows.topBaseWordsSpec Rows.topBaseWordsRow=true:=by kernel_rfl
theorem qdQ:(λ(P:Program) (f:FuncId) (fn:Func) (s:ChangeSpec) (c:OpenClaim)=>((c.stops== []):Bool)) Tryz.prog 3 Tryz.f3 Rows.topBaseWordsSpec Rows.topBaseWordsRow=true:=by kernel_rfl
theorem qdR:(λ(P:Program) (f:FuncId) (fn:Func) (s:ChangeSpec) (c:OpenClaim)=>((c.knobs== []):Bool)) Tryz.prog 3 Tryz.f3 Rows.topBaseWordsSpec Rows.topBaseWordsRow=true:=by kernel_rfl
theorem qam:(λ(P:Program) (f:FuncId) (fn:Func) (s:ChangeSpec) (c:OpenClaim)=>((c.maps==(fn.params.toList++s.plain.varTypes P).any (P.mapsRec ·)):Bool)) Tryz.prog 3 Tryz.f3 Rows.topBaseWordsSpec Rows.topBaseWordsRow=true:=by kernel_rfl
theorem qan:(λ(P:Program) (f:FuncId) (fn:Func) (s:ChangeSpec) (c:OpenClaim)=>((c.ifaces==(fn.params.toList++s.plain.varTypes P).any (P.ifacesRec ·)):Bool)) Tryz.prog 3 Tryz.f3 Rows.topBaseWordsSpec Rows.topBaseWordsRow=true:=by kernel_rfl
theorem qao:(λ(P:Program) (f:FuncId) (fn:Func) (s:ChangeSpec) (c:OpenClaim)=>((c.mapsOut==P.mapsAmong fn.resultTypes.toList):Bool)) Tryz.prog 3 Tryz.f3 Rows.topBaseWordsSpec Rows.topBaseWordsRow=true:=by kernel_rfl
theorem qap:(λ(P:Program) (f:FuncId) (fn:Func) (s:ChangeSpec) (c:OpenClaim)=>((c.loops==(fn.params.toList++s.plain.varTypes P).any (P.loopsFrom ·)):Bool)) Tryz.prog 3 Tryz.f3 Rows.topBaseWordsSpec Rows.topBaseWordsRow=true:=by kernel_rfl
theorem qaq:(λ(P:Program) (f:FuncId) (fn:Func) (s:ChangeSpec) (c:OpenClaim)=>((c.wideKeys==(fn.params.toList++s.plain.varTypes P++fn.resultTypes.toList).any (P.wideKeysFrom ·)):Bool)) Tryz.prog 3 Tryz.f3 Rows.topBaseWordsSpec Rows.topBaseWordsRow=true:=by kernel_rfl
theorem qar:(λ(P:Program) (f:FuncId) (fn:Func) (s:ChangeSpec) (c:OpenClaim)=>(s.vars.all (P.varReadable ·):Bool)) Tryz.prog 3 Tryz.f3 Rows.topBaseWordsSpec Rows.topBaseWordsRow=true:=by kernel_rfl
theorem qas:(λ(P:Program) (f:FuncId) (fn:Func) (s:ChangeSpec) (c:OpenClaim)=>(fn.resultTypes.all (λt=>P.readableRec t&&decide (t<P.types.size)):Bool)) Tryz.prog 3 Tryz.f3 Rows.topBaseWordsSpec Rows.topBaseWordsRow=true:=by kernel_rfl
theorem qat:(λ(P:Program) (f:FuncId) (fn:Func) (s:ChangeSpec) (c:OpenClaim)=>((c.ifacesOut==fn.resultTypes.toList.any (P.ifacesRec ·)):Bool)) Tryz.prog 3 Tryz.f3 Rows.topBaseWordsSpec Rows.topBaseWordsRow=true:=by kernel_rfl
theorem qau:(λ(P:Program) (f:FuncId) (fn:Func) (s:ChangeSpec) (c:OpenClaim)=>((c.loopsOut==fn.resultTypes.toList.any (P.loopsFrom ·)):Bool)) Tryz.prog 3 Tryz.f3 Rows.topBaseWordsSpec Rows.topBaseWordsRow=true:=by kernel_rfl
theorem qav:(λ(P:Program) (f:FuncId) (fn:Func) (s:ChangeSpec) (c:OpenClaim)=>((c.plainKeys==P.plainKeys):Bool)) Tryz.prog 3 Tryz.f3 Rows.topBaseWordsSpec Rows.topBaseWordsRow=true:=by kernel_rfl
theorem qaw:(λ(P:Program) (f:FuncId) (fn:Func) (s:ChangeSpec) (c:OpenClaim)=>(c.shortTexts.isNone:Bool)) Tryz.prog 3 Tryz.f3 Rows.topBaseWordsSpec Rows.topBaseWordsRow=true:=by kernel_rfl
theorem qaz:(λ(P:Program) (f:FuncId) (fn:Func) (s:ChangeSpec) (c:OpenClaim)=>((c.kinds==(if c.domain.isEmpty then [] else fn.params.toList.map λt=>match P.underlying t with|some (.int k)=>some k|_=>none)):Bool)) Tryz.prog 3 Tryz.f3 Rows.topBaseWordsSpec Rows.topBaseWordsRow=true:=by kernel_rfl
theorem qaA:(λ(P:Program) (f:FuncId) (fn:Func) (s:ChangeSpec) (c:OpenClaim)=>((c.pinned==c.pinnedBy):Bool)) Tryz.prog 3 Tryz.f3 Rows.topBaseWordsSpec Rows.topBaseWordsRow=true:=by kernel_rfl
theorem qaB:(λ(P:Program) (f:FuncId) (fn:Func) (s:ChangeSpec) (c:OpenClaim)=>((c.veiled==(fn.params.toList++s.plain.varTypes P++fn.resultTypes.toList).any (P.veiledRec ·)):Bool)) Tryz.prog 3 Tryz.f3 Rows.topBaseWordsSpec Rows.topBaseWordsRow=true:=by kernel_rfl
theorem qaC:(λ(P:Program) (f:FuncId) (fn:Func) (s:ChangeSpec) (c:OpenClaim)=>(c.veiledFits P fn.params.toList (fn.params.toList++s.plain.varTypes P++fn.resultTypes.toList):Bool)) Tryz.prog 3 Tryz.f3 Rows.topBaseWordsSpec Rows.topBaseWordsRow=true:=by kernel_rfl
theorem qF{a b:Bool}(h1:a=true)(h2:b=true):(a&&b)=true:=by rw[h1,h2];rfl
theorem Dp:joinedFacts Tryz.prog 3 Tryz.f3 Rows.topBaseWordsSpec Rows.topBaseWordsRow=true:=by
 unfold joinedFacts;refine qF ?_ (by exact qaC);refine qF ?_ (by exact qaB);refine qF ?_ (by exact qaA);refine qF ?_ (by exact qaz);refine qF ?_ (by exact qay);refine qF ?_ (by exact qax);refine qF ?_ (by exact qea);refine qF ?_ (by exact qd9);refine qF ?_ (by exact qaw);refine qF ?_ (by exact qav);refine qF ?_ (by exact qau);refine qF ?_ (by exact qat);refine qF ?_ (by exact qas);refine qF ?_ (by exact qar);refine qF ?_ (by exact qaq);refine qF ?_ (by exact qap);refine qF ?_ (by exact qao);refine qF ?_ (by exact qan);refine qF ?_ (by exact qam);refine qF ?_ (by exact qal);refine qF ?_ (by exact qak);refine qF ?_ (by exact qaj);refine qF ?_ (by exact qdS);refine qF ?_ (by exact wp8);refine qF ?_ (by exact qdR);refine qF ?_ (by exact wp6);refine qF ?_ (by exact qdQ);refine qF ?_ (by exact qdP);refine qF ?_ (by exact qdO);refine qF ?_ (by exact wp2);refine qF ?_ (by exact wp1);exact qdN
end Go.Proofs.YtiiegfkjmnoijaaGreatDoor
