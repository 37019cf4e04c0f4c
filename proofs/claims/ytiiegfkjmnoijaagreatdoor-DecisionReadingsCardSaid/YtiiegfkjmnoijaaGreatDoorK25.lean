import Derived.Test.YtiiegfkjmnoijaaGreatDoorRows
import Derived.JoinedOf
import Derived.KernelRfl
import Derived.Test.YtiiegfkjmnoijaaGreatDoorK0
import Derived.Test.YtiiegfkjmnoijaaGreatDoorK19
import Derived.Test.YtiiegfkjmnoijaaGreatDoorK20
import Derived.Test.YtiiegfkjmnoijaaGreatDoorK21
import Derived.Test.YtiiegfkjmnoijaaGreatDoorK22
import Derived.Test.YtiiegfkjmnoijaaGreatDoorK23
import Derived.Test.YtiiegfkjmnoijaaGreatDoorK24
set_option linter.all false
namespace Go.Proofs.YtiiegfkjmnoijaaGreatDoor
open Go
set_option maxRecDepth 100000
theorem IC:(λ(P:Program) (f:FuncId) (fn:Func) (s:ChangeSpec) (c:OpenClaim)=>(c.wf (OpenSpec.ofChange s):Bool)) Tryz.prog 13 Tryz.f13 Rows.decisionReadingsSpec Rows.decisionReadingsRow=true:=by kernel_rfl
theorem ID:(λ(P:Program) (f:FuncId) (fn:Func) (s:ChangeSpec) (c:OpenClaim)=>(fn.params.all (P.readableRec ·):Bool)) Tryz.prog 13 Tryz.f13 Rows.decisionReadingsSpec Rows.decisionReadingsRow=true:=by kernel_rfl
theorem IE:(λ(P:Program) (f:FuncId) (fn:Func) (s:ChangeSpec) (c:OpenClaim)=>(namedTie P c.named s.vars:Bool)) Tryz.prog 13 Tryz.f13 Rows.decisionReadingsSpec Rows.decisionReadingsRow=true:=by kernel_rfl
theorem IF:(λ(P:Program) (f:FuncId) (fn:Func) (s:ChangeSpec) (c:OpenClaim)=>((c.stops== []):Bool)) Tryz.prog 13 Tryz.f13 Rows.decisionReadingsSpec Rows.decisionReadingsRow=true:=by kernel_rfl
theorem IG:(λ(P:Program) (f:FuncId) (fn:Func) (s:ChangeSpec) (c:OpenClaim)=>((c.knobs== []):Bool)) Tryz.prog 13 Tryz.f13 Rows.decisionReadingsSpec Rows.decisionReadingsRow=true:=by kernel_rfl
theorem A1:(λ(P:Program) (f:FuncId) (fn:Func) (s:ChangeSpec) (c:OpenClaim)=>((c.maps==(fn.params.toList++s.plain.varTypes P).any (P.mapsRec ·)):Bool)) Tryz.prog 13 Tryz.f13 Rows.decisionReadingsSpec Rows.decisionReadingsRow=true:=by kernel_rfl
theorem A2:(λ(P:Program) (f:FuncId) (fn:Func) (s:ChangeSpec) (c:OpenClaim)=>((c.ifaces==(fn.params.toList++s.plain.varTypes P).any (P.ifacesRec ·)):Bool)) Tryz.prog 13 Tryz.f13 Rows.decisionReadingsSpec Rows.decisionReadingsRow=true:=by kernel_rfl
theorem A3:(λ(P:Program) (f:FuncId) (fn:Func) (s:ChangeSpec) (c:OpenClaim)=>((c.mapsOut==P.mapsAmong fn.resultTypes.toList):Bool)) Tryz.prog 13 Tryz.f13 Rows.decisionReadingsSpec Rows.decisionReadingsRow=true:=by kernel_rfl
theorem A4:(λ(P:Program) (f:FuncId) (fn:Func) (s:ChangeSpec) (c:OpenClaim)=>((c.loops==(fn.params.toList++s.plain.varTypes P).any (P.loopsFrom ·)):Bool)) Tryz.prog 13 Tryz.f13 Rows.decisionReadingsSpec Rows.decisionReadingsRow=true:=by kernel_rfl
theorem A5:(λ(P:Program) (f:FuncId) (fn:Func) (s:ChangeSpec) (c:OpenClaim)=>((c.wideKeys==(fn.params.toList++s.plain.varTypes P++fn.resultTypes.toList).any (P.wideKeysFrom ·)):Bool)) Tryz.prog 13 Tryz.f13 Rows.decisionReadingsSpec Rows.decisionReadingsRow=true:=by kernel_rfl
theorem A6:(λ(P:Program) (f:FuncId) (fn:Func) (s:ChangeSpec) (c:OpenClaim)=>(s.vars.all (P.varReadable ·):Bool)) Tryz.prog 13 Tryz.f13 Rows.decisionReadingsSpec Rows.decisionReadingsRow=true:=by kernel_rfl
theorem A7:(λ(P:Program) (f:FuncId) (fn:Func) (s:ChangeSpec) (c:OpenClaim)=>(fn.resultTypes.all (λt=>P.readableRec t&&decide (t<P.types.size)):Bool)) Tryz.prog 13 Tryz.f13 Rows.decisionReadingsSpec Rows.decisionReadingsRow=true:=by kernel_rfl
theorem A8:(λ(P:Program) (f:FuncId) (fn:Func) (s:ChangeSpec) (c:OpenClaim)=>((c.ifacesOut==fn.resultTypes.toList.any (P.ifacesRec ·)):Bool)) Tryz.prog 13 Tryz.f13 Rows.decisionReadingsSpec Rows.decisionReadingsRow=true:=by kernel_rfl
theorem A9:(λ(P:Program) (f:FuncId) (fn:Func) (s:ChangeSpec) (c:OpenClaim)=>((c.loopsOut==fn.resultTypes.toList.any (P.loopsFrom ·)):Bool)) Tryz.prog 13 Tryz.f13 Rows.decisionReadingsSpec Rows.decisionReadingsRow=true:=by kernel_rfl
theorem Ba:(λ(P:Program) (f:FuncId) (fn:Func) (s:ChangeSpec) (c:OpenClaim)=>((c.plainKeys==P.plainKeys):Bool)) Tryz.prog 13 Tryz.f13 Rows.decisionReadingsSpec Rows.decisionReadingsRow=true:=by kernel_rfl
theorem Bc:(λ(P:Program) (f:FuncId) (fn:Func) (s:ChangeSpec) (c:OpenClaim)=>(c.shortTexts.isNone:Bool)) Tryz.prog 13 Tryz.f13 Rows.decisionReadingsSpec Rows.decisionReadingsRow=true:=by kernel_rfl
theorem Bf:(λ(P:Program) (f:FuncId) (fn:Func) (s:ChangeSpec) (c:OpenClaim)=>((c.kinds==(if c.domain.isEmpty then [] else fn.params.toList.map λt=>match P.underlying t with|some (.int k)=>some k|_=>none)):Bool)) Tryz.prog 13 Tryz.f13 Rows.decisionReadingsSpec Rows.decisionReadingsRow=true:=by kernel_rfl
theorem Bg:(λ(P:Program) (f:FuncId) (fn:Func) (s:ChangeSpec) (c:OpenClaim)=>((c.pinned==c.pinnedBy):Bool)) Tryz.prog 13 Tryz.f13 Rows.decisionReadingsSpec Rows.decisionReadingsRow=true:=by kernel_rfl
theorem Bh:(λ(P:Program) (f:FuncId) (fn:Func) (s:ChangeSpec) (c:OpenClaim)=>((c.veiled==(fn.params.toList++s.plain.varTypes P++fn.resultTypes.toList).any (P.veiledRec ·)):Bool)) Tryz.prog 13 Tryz.f13 Rows.decisionReadingsSpec Rows.decisionReadingsRow=true:=by kernel_rfl
theorem Bi:(λ(P:Program) (f:FuncId) (fn:Func) (s:ChangeSpec) (c:OpenClaim)=>(c.veiledFits P fn.params.toList (fn.params.toList++s.plain.varTypes P++fn.resultTypes.toList):Bool)) Tryz.prog 13 Tryz.f13 Rows.decisionReadingsSpec Rows.decisionReadingsRow=true:=by kernel_rfl
theorem qu{a b:Bool}(h1:a=true)(h2:b=true):(a&&b)=true:=by rw[h1,h2];rfl
theorem Zq:joinedFacts Tryz.prog 13 Tryz.f13 Rows.decisionReadingsSpec Rows.decisionReadingsRow=true:=by
 unfold joinedFacts;refine qu ?_ (by exact Bi);refine qu ?_ (by exact Bh);refine qu ?_ (by exact Bg);refine qu ?_ (by exact Bf);refine qu ?_ (by exact Be);refine qu ?_ (by exact Bd);refine qu ?_ (by exact RH);refine qu ?_ (by exact RG);refine qu ?_ (by exact Bc);refine qu ?_ (by exact Ba);refine qu ?_ (by exact A9);refine qu ?_ (by exact A8);refine qu ?_ (by exact A7);refine qu ?_ (by exact A6);refine qu ?_ (by exact A5);refine qu ?_ (by exact A4);refine qu ?_ (by exact A3);refine qu ?_ (by exact A2);refine qu ?_ (by exact A1);refine qu ?_ (by exact AZ);refine qu ?_ (by exact AY);refine qu ?_ (by exact AX);refine qu ?_ (by exact IH);refine qu ?_ (by exact wp8);refine qu ?_ (by exact IG);refine qu ?_ (by exact wp6);refine qu ?_ (by exact IF);refine qu ?_ (by exact IE);refine qu ?_ (by exact ID);refine qu ?_ (by exact wp2);refine qu ?_ (by exact wp1);exact IC
end Go.Proofs.YtiiegfkjmnoijaaGreatDoor
