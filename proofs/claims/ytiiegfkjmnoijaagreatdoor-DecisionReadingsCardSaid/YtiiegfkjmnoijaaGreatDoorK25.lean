import Derived.Test.YtiiegfkjmnoijaaGreatDoorRows
import Derived.JoinedOf
import Derived.KernelRfl
import Derived.Test.YtiiegfkjmnoijaaGreatDoorK0
import Derived.Test.YtiiegfkjmnoijaaGreatDoorK19
import Derived.Test.YtiiegfkjmnoijaaGreatDoorK20
import Derived.Test.YtiiegfkjmnoijaaGreatDoorK21
import Derived.Test.YtiiegfkjmnoijaaGreatDoorK22
import Derived.Test.YtiiegfkjmnoijaaGreatDoorK23
import Derived.Test.YtiiegfkjmnoijaaGreatDoorK24
set_option linter.all false
namespace Go.Proofs.YtiiegfkjmnoijaaGreatDoor
open Go
set_option maxRecDepth 100000
theorem qy3:(λ(P:Program) (f:FuncId) (fn:Func) (s:ChangeSpec) (c:OpenClaim)=>(c.wf (OpenSpec.ofChange s):Bool)) Tryz.prog 13 Tryz.f13 Rows.decisionReadingsSpec Rows.decisionReadingsRow=true:=by kernel_rfl
theorem qy4:(λ(P:Program) (f:FuncId) (fn:Func) (s:ChangeSpec) (c:OpenClaim)=>(fn.params.all (P.readableRec ·):Bool)) Tryz.prog 13 Tryz.f13 Rows.decisionReadingsSpec Rows.decisionReadingsRow=true:=by kernel_rfl
theorem qy5:(λ(P:Program) (f:FuncId) (fn:Func) (s:ChangeSpec) (c:OpenClaim)=>(namedTie P c.named s.vars:Bool)) Tryz.prog 13 Tryz.f13 Rows.decisionReadingsSpec Rows.decisionReadingsRow=true:=by kernel_rfl
theorem qy6:(λ(P:Program) (f:FuncId) (fn:Func) (s:ChangeSpec) (c:OpenClaim)=>((c.stops== []):Bool)) Tryz.prog 13 Tryz.f13 Rows.decisionReadingsSpec Rows.decisionReadingsRow=true:=by kernel_rfl
theorem qy7:(λ(P:Program) (f:FuncId) (fn:Func) (s:ChangeSpec) (c:OpenClaim)=>((c.knobs== []):Bool)) Tryz.prog 13 Tryz.f13 Rows.decisionReadingsSpec Rows.decisionReadingsRow=true:=by kernel_rfl
theorem qtm:(λ(P:Program) (f:FuncId) (fn:Func) (s:ChangeSpec) (c:OpenClaim)=>((c.maps==(fn.params.toList++s.plain.varTypes P).any (P.mapsRec ·)):Bool)) Tryz.prog 13 Tryz.f13 Rows.decisionReadingsSpec Rows.decisionReadingsRow=true:=by kernel_rfl
theorem qtn:(λ(P:Program) (f:FuncId) (fn:Func) (s:ChangeSpec) (c:OpenClaim)=>((c.ifaces==(fn.params.toList++s.plain.varTypes P).any (P.ifacesRec ·)):Bool)) Tryz.prog 13 Tryz.f13 Rows.decisionReadingsSpec Rows.decisionReadingsRow=true:=by kernel_rfl
theorem qto:(λ(P:Program) (f:FuncId) (fn:Func) (s:ChangeSpec) (c:OpenClaim)=>((c.mapsOut==P.mapsAmong fn.resultTypes.toList):Bool)) Tryz.prog 13 Tryz.f13 Rows.decisionReadingsSpec Rows.decisionReadingsRow=true:=by kernel_rfl
theorem qtp:(λ(P:Program) (f:FuncId) (fn:Func) (s:ChangeSpec) (c:OpenClaim)=>((c.loops==(fn.params.toList++s.plain.varTypes P).any (P.loopsFrom ·)):Bool)) Tryz.prog 13 Tryz.f13 Rows.decisionReadingsSpec Rows.decisionReadingsRow=true:=by kernel_rfl
theorem qtq:(λ(P:Program) (f:FuncId) (fn:Func) (s:ChangeSpec) (c:OpenClaim)=>((c.wideKeys==(fn.params.toList++s.plain.varTypes P++fn.resultTypes.toList).any (P.wideKeysFrom ·)):Bool)) Tryz.prog 13 Tryz.f13 Rows.decisionReadingsSpec Rows.decisionReadingsRow=true:=by kernel_rfl
theorem qtr:(λ(P:Program) (f:FuncId) (fn:Func) (s:ChangeSpec) (c:OpenClaim)=>(s.vars.all (P.varReadable ·):Bool)) Tryz.prog 13 Tryz.f13 Rows.decisionReadingsSpec Rows.decisionReadingsRow=true:=by kernel_rfl
theorem qts:(λ(P:Program) (f:FuncId) (fn:Func) (s:ChangeSpec) (c:OpenClaim)=>(fn.resultTypes.all (λt=>P.readableRec t&&decide (t<P.types.size)):Bool)) Tryz.prog 13 Tryz.f13 Rows.decisionReadingsSpec Rows.decisionReadingsRow=true:=by kernel_rfl
theorem qtt:(λ(P:Program) (f:FuncId) (fn:Func) (s:ChangeSpec) (c:OpenClaim)=>((c.ifacesOut==fn.resultTypes.toList.any (P.ifacesRec ·)):Bool)) Tryz.prog 13 Tryz.f13 Rows.decisionReadingsSpec Rows.decisionReadingsRow=true:=by kernel_rfl
theorem qtu:(λ(P:Program) (f:FuncId) (fn:Func) (s:ChangeSpec) (c:OpenClaim)=>((c.loopsOut==fn.resultTypes.toList.any (P.loopsFrom ·)):Bool)) Tryz.prog 13 Tryz.f13 Rows.decisionReadingsSpec Rows.decisionReadingsRow=true:=by kernel_rfl
theorem qtv:(λ(P:Program) (f:FuncId) (fn:Func) (s:ChangeSpec) (c:OpenClaim)=>((c.plainKeys==P.plainKeys):Bool)) Tryz.prog 13 Tryz.f13 Rows.decisionReadingsSpec Rows.decisionReadingsRow=true:=by kernel_rfl
theorem qtw:(λ(P:Program) (f:FuncId) (fn:Func) (s:ChangeSpec) (c:OpenClaim)=>(c.shortTexts.isNone:Bool)) Tryz.prog 13 Tryz.f13 Rows.decisionReadingsSpec Rows.decisionReadingsRow=true:=by kernel_rfl
theorem qtz:(λ(P:Program) (f:FuncId) (fn:Func) (s:ChangeSpec) (c:OpenClaim)=>((c.kinds==(if c.domain.isEmpty then [] else fn.params.toList.map λt=>match P.underlying t with|some (.int k)=>some k|_=>none)):Bool)) Tryz.prog 13 Tryz.f13 Rows.decisionReadingsSpec Rows.decisionReadingsRow=true:=by kernel_rfl
theorem qtA:(λ(P:Program) (f:FuncId) (fn:Func) (s:ChangeSpec) (c:OpenClaim)=>((c.pinned==c.pinnedBy):Bool)) Tryz.prog 13 Tryz.f13 Rows.decisionReadingsSpec Rows.decisionReadingsRow=true:=by kernel_rfl
theorem qtB:(λ(P:Program) (f:FuncId) (fn:Func) (s:ChangeSpec) (c:OpenClaim)=>((c.veiled==(fn.params.toList++s.plain.varTypes P++fn.resultTypes.toList).any (P.veiledRec ·)):Bool)) Tryz.prog 13 Tryz.f13 Rows.decisionReadingsSpec Rows.decisionReadingsRow=true:=by kernel_rfl
theorem qtC:(λ(P:Program) (f:FuncId) (fn:Func) (s:ChangeSpec) (c:OpenClaim)=>(c.veiledFits P fn.params.toList (fn.params.toList++s.plain.varTypes P++fn.resultTypes.toList):Bool)) Tryz.prog 13 Tryz.f13 Rows.decisionReadingsSpec Rows.decisionReadingsRow=true:=by kernel_rfl
theorem qu{a b:Bool}(h1:a=true)(h2:b=true):(a&&b)=true:=by rw[h1,h2];rfl
theorem qmE:joinedFacts Tryz.prog 13 Tryz.f13 Rows.decisionReadingsSpec Rows.decisionReadingsRow=true:=by
 unfold joinedFacts;refine qu ?_ (by exact qtC);refine qu ?_ (by exact qtB);refine qu ?_ (by exact qtA);refine qu ?_ (by exact qtz);refine qu ?_ (by exact qty);refine qu ?_ (by exact qtx);refine qu ?_ (by exact qDg);refine qu ?_ (by exact qDf);refine qu ?_ (by exact qtw);refine qu ?_ (by exact qtv);refine qu ?_ (by exact qtu);refine qu ?_ (by exact qtt);refine qu ?_ (by exact qts);refine qu ?_ (by exact qtr);refine qu ?_ (by exact qtq);refine qu ?_ (by exact qtp);refine qu ?_ (by exact qto);refine qu ?_ (by exact qtn);refine qu ?_ (by exact qtm);refine qu ?_ (by exact qtl);refine qu ?_ (by exact qtk);refine qu ?_ (by exact qtj);refine qu ?_ (by exact qy8);refine qu ?_ (by exact wp8);refine qu ?_ (by exact qy7);refine qu ?_ (by exact wp6);refine qu ?_ (by exact qy6);refine qu ?_ (by exact qy5);refine qu ?_ (by exact qy4);refine qu ?_ (by exact wp2);refine qu ?_ (by exact wp1);exact qy3
end Go.Proofs.YtiiegfkjmnoijaaGreatDoor
