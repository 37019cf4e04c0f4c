import Derived.Test.YtmieflnoheifbaaGreatDoorRows
import Derived.JoinedOf
import Derived.KernelRfl
import Derived.Test.YtmieflnoheifbaaGreatDoorK0
import Derived.Test.YtmieflnoheifbaaGreatDoorK19
import Derived.Test.YtmieflnoheifbaaGreatDoorK20
import Derived.Test.YtmieflnoheifbaaGreatDoorK21
import Derived.Test.YtmieflnoheifbaaGreatDoorK22
import Derived.Test.YtmieflnoheifbaaGreatDoorK23
import Derived.Test.YtmieflnoheifbaaGreatDoorK24
set_option linter.all false
namespace Go.Proofs.YtmieflnoheifbaaGreatDoor
open Go
set_option maxRecDepth 100000
theorem qDj:(λ(P:Program) (f:FuncId) (fn:Func) (s:ChangeSpec) (c:OpenClaim)=>(c.wf (OpenSpec.ofChange s):Bool)) Tryz.prog 7 Tryz.f7 Rows.topLemmataSpec Rows.topLemmataRow=true:=by kernel_rfl
theorem qDk:(λ(P:Program) (f:FuncId) (fn:Func) (s:ChangeSpec) (c:OpenClaim)=>(fn.params.all (P.readableRec ·):Bool)) Tryz.prog 7 Tryz.f7 Rows.topLemmataSpec Rows.topLemmataRow=true:=by kernel_rfl
theorem qDl:(λ(P:Program) (f:FuncId) (fn:Func) (s:ChangeSpec) (c:OpenClaim)=>(namedTie P c.named s.vars:Bool)) Tryz.prog 7 Tryz.f7 Rows.topLemmataSpec Rows.topLemmataRow=true:=by kernel_rfl
theorem qDm:(λ(P:Program) (f:FuncId) (fn:Func) (s:ChangeSpec) (c:OpenClaim)=>((c.stops== []):Bool)) Tryz.prog 7 Tryz.f7 Rows.topLemmataSpec Rows.topLemmataRow=true:=by kernel_rfl
theorem qDn:(λ(P:Program) (f:FuncId) (fn:Func) (s:ChangeSpec) (c:OpenClaim)=>((c.knobs== []):Bool)) Tryz.prog 7 Tryz.f7 Rows.topLemmataSpec Rows.topLemmataRow=true:=by kernel_rfl
theorem qA3:(λ(P:Program) (f:FuncId) (fn:Func) (s:ChangeSpec) (c:OpenClaim)=>((c.maps==(fn.params.toList++s.plain.varTypes P).any (P.mapsRec ·)):Bool)) Tryz.prog 7 Tryz.f7 Rows.topLemmataSpec Rows.topLemmataRow=true:=by kernel_rfl
theorem qA4:(λ(P:Program) (f:FuncId) (fn:Func) (s:ChangeSpec) (c:OpenClaim)=>((c.ifaces==(fn.params.toList++s.plain.varTypes P).any (P.ifacesRec ·)):Bool)) Tryz.prog 7 Tryz.f7 Rows.topLemmataSpec Rows.topLemmataRow=true:=by kernel_rfl
theorem qA5:(λ(P:Program) (f:FuncId) (fn:Func) (s:ChangeSpec) (c:OpenClaim)=>((c.mapsOut==P.mapsAmong fn.resultTypes.toList):Bool)) Tryz.prog 7 Tryz.f7 Rows.topLemmataSpec Rows.topLemmataRow=true:=by kernel_rfl
theorem qA6:(λ(P:Program) (f:FuncId) (fn:Func) (s:ChangeSpec) (c:OpenClaim)=>((c.loops==(fn.params.toList++s.plain.varTypes P).any (P.loopsFrom ·)):Bool)) Tryz.prog 7 Tryz.f7 Rows.topLemmataSpec Rows.topLemmataRow=true:=by kernel_rfl
theorem qA7:(λ(P:Program) (f:FuncId) (fn:Func) (s:ChangeSpec) (c:OpenClaim)=>((c.wideKeys==(fn.params.toList++s.plain.varTypes P++fn.resultTypes.toList).any (P.wideKeysFrom ·)):Bool)) Tryz.prog 7 Tryz.f7 Rows.topLemmataSpec Rows.topLemmataRow=true:=by kernel_rfl
theorem qA8:(λ(P:Program) (f:FuncId) (fn:Func) (s:ChangeSpec) (c:OpenClaim)=>(s.vars.all (P.varReadable ·):Bool)) Tryz.prog 7 Tryz.f7 Rows.topLemmataSpec Rows.topLemmataRow=true:=by kernel_rfl
theorem qA9:(λ(P:Program) (f:FuncId) (fn:Func) (s:ChangeSpec) (c:OpenClaim)=>(fn.resultTypes.all (λt=>P.readableRec t&&decide (t<P.types.size)):Bool)) Tryz.prog 7 Tryz.f7 Rows.topLemmataSpec Rows.topLemmataRow=true:=by kernel_rfl
theorem qBa:(λ(P:Program) (f:FuncId) (fn:Func) (s:ChangeSpec) (c:OpenClaim)=>((c.ifacesOut==fn.resultTypes.toList.any (P.ifacesRec ·)):Bool)) Tryz.prog 7 Tryz.f7 Rows.topLemmataSpec Rows.topLemmataRow=true:=by kernel_rfl
theorem qBb:(λ(P:Program) (f:FuncId) (fn:Func) (s:ChangeSpec) (c:OpenClaim)=>((c.loopsOut==fn.resultTypes.toList.any (P.loopsFrom ·)):Bool)) Tryz.prog 7 Tryz.f7 Rows.topLemmataSpec Rows.topLemmataRow=true:=by kernel_rfl
theorem qBc:(λ(P:Program) (f:FuncId) (fn:Func) (s:ChangeSpec) (c:OpenClaim)=>((c.plainKeys==P.plainKeys):Bool)) Tryz.prog 7 Tryz.f7 Rows.topLemmataSpec Rows.topLemmataRow=true:=by kernel_rfl
theorem qBd:(λ(P:Program) (f:FuncId) (fn:Func) (s:ChangeSpec) (c:OpenClaim)=>(c.shortTexts.isNone:Bool)) Tryz.prog 7 Tryz.f7 Rows.topLemmataSpec Rows.topLemmataRow=true:=by kernel_rfl
theorem qBg:(λ(P:Program) (f:FuncId) (fn:Func) (s:ChangeSpec) (c:OpenClaim)=>((c.kinds==(if c.domain.isEmpty then [] else fn.params.toList.map λt=>match P.underlying t with|some (.int k)=>some k|_=>none)):Bool)) Tryz.prog 7 Tryz.f7 Rows.topLemmataSpec Rows.topLemmataRow=true:=by kernel_rfl
theorem qBh:(λ(P:Program) (f:FuncId) (fn:Func) (s:ChangeSpec) (c:OpenClaim)=>((c.pinned==c.pinnedBy):Bool)) Tryz.prog 7 Tryz.f7 Rows.topLemmataSpec Rows.topLemmataRow=true:=by kernel_rfl
theorem qBi:(λ(P:Program) (f:FuncId) (fn:Func) (s:ChangeSpec) (c:OpenClaim)=>((c.veiled==(fn.params.toList++s.plain.varTypes P++fn.resultTypes.toList).any (P.veiledRec ·)):Bool)) Tryz.prog 7 Tryz.f7 Rows.topLemmataSpec Rows.topLemmataRow=true:=by kernel_rfl
theorem qBj:(λ(P:Program) (f:FuncId) (fn:Func) (s:ChangeSpec) (c:OpenClaim)=>(c.veiledFits P fn.params.toList (fn.params.toList++s.plain.varTypes P++fn.resultTypes.toList):Bool)) Tryz.prog 7 Tryz.f7 Rows.topLemmataSpec Rows.topLemmataRow=true:=by kernel_rfl
theorem qv{a b:Bool}(h1:a=true)(h2:b=true):(a&&b)=true:=by rw[h1,h2];rfl
theorem qtd:joinedFacts Tryz.prog 7 Tryz.f7 Rows.topLemmataSpec Rows.topLemmataRow=true:=by
 unfold joinedFacts;refine qv ?_ (by exact qBj);refine qv ?_ (by exact qBi);refine qv ?_ (by exact qBh);refine qv ?_ (by exact qBg);refine qv ?_ (by exact qBf);refine qv ?_ (by exact qBe);refine qv ?_ (by exact qFl);refine qv ?_ (by exact qFk);refine qv ?_ (by exact qBd);refine qv ?_ (by exact qBc);refine qv ?_ (by exact qBb);refine qv ?_ (by exact qBa);refine qv ?_ (by exact qA9);refine qv ?_ (by exact qA8);refine qv ?_ (by exact qA7);refine qv ?_ (by exact qA6);refine qv ?_ (by exact qA5);refine qv ?_ (by exact qA4);refine qv ?_ (by exact qA3);refine qv ?_ (by exact qA2);refine qv ?_ (by exact qA1);refine qv ?_ (by exact qA0);refine qv ?_ (by exact qDo);refine qv ?_ (by exact wp8);refine qv ?_ (by exact qDn);refine qv ?_ (by exact wp6);refine qv ?_ (by exact qDm);refine qv ?_ (by exact qDl);refine qv ?_ (by exact qDk);refine qv ?_ (by exact wp2);refine qv ?_ (by exact wp1);exact qDj
end Go.Proofs.YtmieflnoheifbaaGreatDoor
