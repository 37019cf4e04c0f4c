import Derived.Test.YtmieflnoheifbaaGreatDoorRows
import Derived.JoinedOf
import Derived.KernelRfl
import Derived.Test.YtmieflnoheifbaaGreatDoorK0
import Derived.Test.YtmieflnoheifbaaGreatDoorK22
import Derived.Test.YtmieflnoheifbaaGreatDoorK23
import Derived.Test.YtmieflnoheifbaaGreatDoorK24
import Derived.Test.YtmieflnoheifbaaGreatDoorK25
import Derived.Test.YtmieflnoheifbaaGreatDoorK26
import Derived.Test.YtmieflnoheifbaaGreatDoorK27
set_option linter.all false
namespace Go.Proofs.YtmieflnoheifbaaGreatDoor
open Go
set_option maxRecDepth 100000
theorem qEo:(λ(P:Program) (f:FuncId) (fn:Func) (s:ChangeSpec) (c:OpenClaim)=>(c.wf (OpenSpec.ofChange s):Bool)) Tryz.prog 4 Tryz.f4 Rows.decisionEstablishesSpec Rows.decisionEstablishesRow=true:=by kernel_rfl
theorem qEp:(λ(P:Program) (f:FuncId) (fn:Func) (s:ChangeSpec) (c:OpenClaim)=>(fn.params.all (P.readableRec ·):Bool)) Tryz.prog 4 Tryz.f4 Rows.decisionEstablishesSpec Rows.decisionEstablishesRow=true:=by kernel_rfl
theorem qEq:(λ(P:Program) (f:FuncId) (fn:Func) (s:ChangeSpec) (c:OpenClaim)=>(namedTie P c.named s.vars:Bool)) Tryz.prog 4 Tryz.f4 Rows.decisionEstablishesSpec Rows.decisionEstablishesRow=true:=by kernel_rfl
theorem qEr:(λ(P:Program) (f:FuncId) (fn:Func) (s:ChangeSpec) (c:OpenClaim)=>((c.stops== []):Bool)) Tryz.prog 4 Tryz.f4 Rows.decisionEstablishesSpec Rows.decisionEstablishesRow=true:=by kernel_rfl
theorem qEs:(λ(P:Program) (f:FuncId) (fn:Func) (s:ChangeSpec) (c:OpenClaim)=>((c.knobs== []):Bool)) Tryz.prog 4 Tryz.f4 Rows.decisionEstablishesSpec Rows.decisionEstablishesRow=true:=by kernel_rfl
theorem qBP:(λ(P:Program) (f:FuncId) (fn:Func) (s:ChangeSpec) (c:OpenClaim)=>((c.maps==(fn.params.toList++s.plain.varTypes P).any (P.mapsRec ·)):Bool)) Tryz.prog 4 Tryz.f4 Rows.decisionEstablishesSpec Rows.decisionEstablishesRow=true:=by kernel_rfl
theorem qBQ:(λ(P:Program) (f:FuncId) (fn:Func) (s:ChangeSpec) (c:OpenClaim)=>((c.ifaces==(fn.params.toList++s.plain.varTypes P).any (P.ifacesRec ·)):Bool)) Tryz.prog 4 Tryz.f4 Rows.decisionEstablishesSpec Rows.decisionEstablishesRow=true:=by kernel_rfl
theorem qBR:(λ(P:Program) (f:FuncId) (fn:Func) (s:ChangeSpec) (c:OpenClaim)=>((c.mapsOut==P.mapsAmong fn.resultTypes.toList):Bool)) Tryz.prog 4 Tryz.f4 Rows.decisionEstablishesSpec Rows.decisionEstablishesRow=true:=by kernel_rfl
theorem qBS:(λ(P:Program) (f:FuncId) (fn:Func) (s:ChangeSpec) (c:OpenClaim)=>((c.loops==(fn.params.toList++s.plain.varTypes P).any (P.loopsFrom ·)):Bool)) Tryz.prog 4 Tryz.f4 Rows.decisionEstablishesSpec Rows.decisionEstablishesRow=true:=by kernel_rfl
theorem qBT:(λ(P:Program) (f:FuncId) (fn:Func) (s:ChangeSpec) (c:OpenClaim)=>((c.wideKeys==(fn.params.toList++s.plain.varTypes P++fn.resultTypes.toList).any (P.wideKeysFrom ·)):Bool)) Tryz.prog 4 Tryz.f4 Rows.decisionEstablishesSpec Rows.decisionEstablishesRow=true:=by kernel_rfl
theorem qBU:(λ(P:Program) (f:FuncId) (fn:Func) (s:ChangeSpec) (c:OpenClaim)=>(s.vars.all (P.varReadable ·):Bool)) Tryz.prog 4 Tryz.f4 Rows.decisionEstablishesSpec Rows.decisionEstablishesRow=true:=by kernel_rfl
theorem qBV:(λ(P:Program) (f:FuncId) (fn:Func) (s:ChangeSpec) (c:OpenClaim)=>(fn.resultTypes.all (λt=>P.readableRec t&&decide (t<P.types.size)):Bool)) Tryz.prog 4 Tryz.f4 Rows.decisionEstablishesSpec Rows.decisionEstablishesRow=true:=by kernel_rfl
theorem qBW:(λ(P:Program) (f:FuncId) (fn:Func) (s:ChangeSpec) (c:OpenClaim)=>((c.ifacesOut==fn.resultTypes.toList.any (P.ifacesRec ·)):Bool)) Tryz.prog 4 Tryz.f4 Rows.decisionEstablishesSpec Rows.decisionEstablishesRow=true:=by kernel_rfl
theorem qBX:(λ(P:Program) (f:FuncId) (fn:Func) (s:ChangeSpec) (c:OpenClaim)=>((c.loopsOut==fn.resultTypes.toList.any (P.loopsFrom ·)):Bool)) Tryz.prog 4 Tryz.f4 Rows.decisionEstablishesSpec Rows.decisionEstablishesRow=true:=by kernel_rfl
theorem qBY:(λ(P:Program) (f:FuncId) (fn:Func) (s:ChangeSpec) (c:OpenClaim)=>((c.plainKeys==P.plainKeys):Bool)) Tryz.prog 4 Tryz.f4 Rows.decisionEstablishesSpec Rows.decisionEstablishesRow=true:=by kernel_rfl
theorem qBZ:(λ(P:Program) (f:FuncId) (fn:Func) (s:ChangeSpec) (c:OpenClaim)=>(c.shortTexts.isNone:Bool)) Tryz.prog 4 Tryz.f4 Rows.decisionEstablishesSpec Rows.decisionEstablishesRow=true:=by kernel_rfl
theorem qB2:(λ(P:Program) (f:FuncId) (fn:Func) (s:ChangeSpec) (c:OpenClaim)=>((c.kinds==(if c.domain.isEmpty then [] else fn.params.toList.map λt=>match P.underlying t with|some (.int k)=>some k|_=>none)):Bool)) Tryz.prog 4 Tryz.f4 Rows.decisionEstablishesSpec Rows.decisionEstablishesRow=true:=by kernel_rfl
theorem qB3:(λ(P:Program) (f:FuncId) (fn:Func) (s:ChangeSpec) (c:OpenClaim)=>((c.pinned==c.pinnedBy):Bool)) Tryz.prog 4 Tryz.f4 Rows.decisionEstablishesSpec Rows.decisionEstablishesRow=true:=by kernel_rfl
theorem qB4:(λ(P:Program) (f:FuncId) (fn:Func) (s:ChangeSpec) (c:OpenClaim)=>((c.veiled==(fn.params.toList++s.plain.varTypes P++fn.resultTypes.toList).any (P.veiledRec ·)):Bool)) Tryz.prog 4 Tryz.f4 Rows.decisionEstablishesSpec Rows.decisionEstablishesRow=true:=by kernel_rfl
theorem qB5:(λ(P:Program) (f:FuncId) (fn:Func) (s:ChangeSpec) (c:OpenClaim)=>(c.veiledFits P fn.params.toList (fn.params.toList++s.plain.varTypes P++fn.resultTypes.toList):Bool)) Tryz.prog 4 Tryz.f4 Rows.decisionEstablishesSpec Rows.decisionEstablishesRow=true:=by kernel_rfl
theorem qy{a b:Bool}(h1:a=true)(h2:b=true):(a&&b)=true:=by rw[h1,h2];rfl
theorem qsV:joinedFacts Tryz.prog 4 Tryz.f4 Rows.decisionEstablishesSpec Rows.decisionEstablishesRow=true:=by
 unfold joinedFacts;refine qy ?_ (by exact qB5);refine qy ?_ (by exact qB4);refine qy ?_ (by exact qB3);refine qy ?_ (by exact qB2);refine qy ?_ (by exact qB1);refine qy ?_ (by exact qB0);refine qy ?_ (by exact qGL);refine qy ?_ (by exact qGK);refine qy ?_ (by exact qBZ);refine qy ?_ (by exact qBY);refine qy ?_ (by exact qBX);refine qy ?_ (by exact qBW);refine qy ?_ (by exact qBV);refine qy ?_ (by exact qBU);refine qy ?_ (by exact qBT);refine qy ?_ (by exact qBS);refine qy ?_ (by exact qBR);refine qy ?_ (by exact qBQ);refine qy ?_ (by exact qBP);refine qy ?_ (by exact qBO);refine qy ?_ (by exact qBN);refine qy ?_ (by exact qBM);refine qy ?_ (by exact qEt);refine qy ?_ (by exact wp8);refine qy ?_ (by exact qEs);refine qy ?_ (by exact wp6);refine qy ?_ (by exact qEr);refine qy ?_ (by exact qEq);refine qy ?_ (by exact qEp);refine qy ?_ (by exact wp2);refine qy ?_ (by exact wp1);exact qEo
end Go.Proofs.YtmieflnoheifbaaGreatDoor
