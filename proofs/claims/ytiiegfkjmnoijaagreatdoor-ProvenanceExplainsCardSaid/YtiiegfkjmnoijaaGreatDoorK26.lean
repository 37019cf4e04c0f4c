import Derived.Test.YtiiegfkjmnoijaaGreatDoorRows
import Derived.JoinedOf
import Derived.KernelRfl
import Derived.Test.YtiiegfkjmnoijaaGreatDoorK0
import Derived.Test.YtiiegfkjmnoijaaGreatDoorK20
import Derived.Test.YtiiegfkjmnoijaaGreatDoorK21
import Derived.Test.YtiiegfkjmnoijaaGreatDoorK22
import Derived.Test.YtiiegfkjmnoijaaGreatDoorK23
import Derived.Test.YtiiegfkjmnoijaaGreatDoorK24
import Derived.Test.YtiiegfkjmnoijaaGreatDoorK25
set_option linter.all false
namespace Go.Proofs.YtiiegfkjmnoijaaGreatDoor
open Go
set_option maxRecDepth 100000
theorem qzQ:(λ(P:Program) (f:FuncId) (fn:Func) (s:ChangeSpec) (c:OpenClaim)=>(c.wf (OpenSpec.ofChange s):Bool)) Tryz.prog 12 Tryz.f12 Rows.provenanceExplainsSpec Rows.provenanceExplainsRow=true:=by kernel_rfl
theorem qzR:(λ(P:Program) (f:FuncId) (fn:Func) (s:ChangeSpec) (c:OpenClaim)=>(fn.params.all (P.readableRec ·):Bool)) Tryz.prog 12 Tryz.f12 Rows.provenanceExplainsSpec Rows.provenanceExplainsRow=true:=by kernel_rfl
theorem qzS:(λ(P:Program) (f:FuncId) (fn:Func) (s:ChangeSpec) (c:OpenClaim)=>(namedTie P c.named s.vars:Bool)) Tryz.prog 12 Tryz.f12 Rows.provenanceExplainsSpec Rows.provenanceExplainsRow=true:=by kernel_rfl
theorem qzT:(λ(P:Program) (f:FuncId) (fn:Func) (s:ChangeSpec) (c:OpenClaim)=>((c.stops== []):Bool)) Tryz.prog 12 Tryz.f12 Rows.provenanceExplainsSpec Rows.provenanceExplainsRow=true:=by kernel_rfl
theorem qzU:(λ(P:Program) (f:FuncId) (fn:Func) (s:ChangeSpec) (c:OpenClaim)=>((c.knobs== []):Bool)) Tryz.prog 12 Tryz.f12 Rows.provenanceExplainsSpec Rows.provenanceExplainsRow=true:=by kernel_rfl
theorem qtN:(λ(P:Program) (f:FuncId) (fn:Func) (s:ChangeSpec) (c:OpenClaim)=>((c.maps==(fn.params.toList++s.plain.varTypes P).any (P.mapsRec ·)):Bool)) Tryz.prog 12 Tryz.f12 Rows.provenanceExplainsSpec Rows.provenanceExplainsRow=true:=by kernel_rfl
theorem qtO:(λ(P:Program) (f:FuncId) (fn:Func) (s:ChangeSpec) (c:OpenClaim)=>((c.ifaces==(fn.params.toList++s.plain.varTypes P).any (P.ifacesRec ·)):Bool)) Tryz.prog 12 Tryz.f12 Rows.provenanceExplainsSpec Rows.provenanceExplainsRow=true:=by kernel_rfl
theorem qtP:(λ(P:Program) (f:FuncId) (fn:Func) (s:ChangeSpec) (c:OpenClaim)=>((c.mapsOut==P.mapsAmong fn.resultTypes.toList):Bool)) Tryz.prog 12 Tryz.f12 Rows.provenanceExplainsSpec Rows.provenanceExplainsRow=true:=by kernel_rfl
theorem qtQ:(λ(P:Program) (f:FuncId) (fn:Func) (s:ChangeSpec) (c:OpenClaim)=>((c.loops==(fn.params.toList++s.plain.varTypes P).any (P.loopsFrom ·)):Bool)) Tryz.prog 12 Tryz.f12 Rows.provenanceExplainsSpec Rows.provenanceExplainsRow=true:=by kernel_rfl
theorem qtR:(λ(P:Program) (f:FuncId) (fn:Func) (s:ChangeSpec) (c:OpenClaim)=>((c.wideKeys==(fn.params.toList++s.plain.varTypes P++fn.resultTypes.toList).any (P.wideKeysFrom ·)):Bool)) Tryz.prog 12 Tryz.f12 Rows.provenanceExplainsSpec Rows.provenanceExplainsRow=true:=by kernel_rfl
theorem qtS:(λ(P:Program) (f:FuncId) (fn:Func) (s:ChangeSpec) (c:OpenClaim)=>(s.vars.all (P.varReadable ·):Bool)) Tryz.prog 12 Tryz.f12 Rows.provenanceExplainsSpec Rows.provenanceExplainsRow=true:=by kernel_rfl
theorem qtT:(λ(P:Program) (f:FuncId) (fn:Func) (s:ChangeSpec) (c:OpenClaim)=>(fn.resultTypes.all (λt=>P.readableRec t&&decide (t<P.types.size)):Bool)) Tryz.prog 12 Tryz.f12 Rows.provenanceExplainsSpec Rows.provenanceExplainsRow=true:=by kernel_rfl
theorem qtU:(λ(P:Program) (f:FuncId) (fn:Func) (s:ChangeSpec) (c:OpenClaim)=>((c.ifacesOut==fn.resultTypes.toList.any (P.ifacesRec ·)):Bool)) Tryz.prog 12 Tryz.f12 Rows.provenanceExplainsSpec Rows.provenanceExplainsRow=true:=by kernel_rfl
theorem qtV:(λ(P:Program) (f:FuncId) (fn:Func) (s:ChangeSpec) (c:OpenClaim)=>((c.loopsOut==fn.resultTypes.toList.any (P.loopsFrom ·)):Bool)) Tryz.prog 12 Tryz.f12 Rows.provenanceExplainsSpec Rows.provenanceExplainsRow=true:=by kernel_rfl
theorem qtW:(λ(P:Program) (f:FuncId) (fn:Func) (s:ChangeSpec) (c:OpenClaim)=>((c.plainKeys==P.plainKeys):Bool)) Tryz.prog 12 Tryz.f12 Rows.provenanceExplainsSpec Rows.provenanceExplainsRow=true:=by kernel_rfl
theorem qtX:(λ(P:Program) (f:FuncId) (fn:Func) (s:ChangeSpec) (c:OpenClaim)=>(c.shortTexts.isNone:Bool)) Tryz.prog 12 Tryz.f12 Rows.provenanceExplainsSpec Rows.provenanceExplainsRow=true:=by kernel_rfl
theorem qt0:(λ(P:Program) (f:FuncId) (fn:Func) (s:ChangeSpec) (c:OpenClaim)=>((c.kinds==(if c.domain.isEmpty then [] else fn.params.toList.map λt=>match P.underlying t with|some (.int k)=>some k|_=>none)):Bool)) Tryz.prog 12 Tryz.f12 Rows.provenanceExplainsSpec Rows.provenanceExplainsRow=true:=by kernel_rfl
theorem qt1:(λ(P:Program) (f:FuncId) (fn:Func) (s:ChangeSpec) (c:OpenClaim)=>((c.pinned==c.pinnedBy):Bool)) Tryz.prog 12 Tryz.f12 Rows.provenanceExplainsSpec Rows.provenanceExplainsRow=true:=by kernel_rfl
theorem qt2:(λ(P:Program) (f:FuncId) (fn:Func) (s:ChangeSpec) (c:OpenClaim)=>((c.veiled==(fn.params.toList++s.plain.varTypes P++fn.resultTypes.toList).any (P.veiledRec ·)):Bool)) Tryz.prog 12 Tryz.f12 Rows.provenanceExplainsSpec Rows.provenanceExplainsRow=true:=by kernel_rfl
theorem qt3:(λ(P:Program) (f:FuncId) (fn:Func) (s:ChangeSpec) (c:OpenClaim)=>(c.veiledFits P fn.params.toList (fn.params.toList++s.plain.varTypes P++fn.resultTypes.toList):Bool)) Tryz.prog 12 Tryz.f12 Rows.provenanceExplainsSpec Rows.provenanceExplainsRow=true:=by kernel_rfl
theorem qw{a b:Bool}(h1:a=true)(h2:b=true):(a&&b)=true:=by rw[h1,h2];rfl
theorem qmN:joinedFacts Tryz.prog 12 Tryz.f12 Rows.provenanceExplainsSpec Rows.provenanceExplainsRow=true:=by
 unfold joinedFacts;refine qw ?_ (by exact qt3);refine qw ?_ (by exact qt2);refine qw ?_ (by exact qt1);refine qw ?_ (by exact qt0);refine qw ?_ (by exact qtZ);refine qw ?_ (by exact qtY);refine qw ?_ (by exact qD4);refine qw ?_ (by exact qD3);refine qw ?_ (by exact qtX);refine qw ?_ (by exact qtW);refine qw ?_ (by exact qtV);refine qw ?_ (by exact qtU);refine qw ?_ (by exact qtT);refine qw ?_ (by exact qtS);refine qw ?_ (by exact qtR);refine qw ?_ (by exact qtQ);refine qw ?_ (by exact qtP);refine qw ?_ (by exact qtO);refine qw ?_ (by exact qtN);refine qw ?_ (by exact qtM);refine qw ?_ (by exact qtL);refine qw ?_ (by exact qtK);refine qw ?_ (by exact qzV);refine qw ?_ (by exact wp8);refine qw ?_ (by exact qzU);refine qw ?_ (by exact wp6);refine qw ?_ (by exact qzT);refine qw ?_ (by exact qzS);refine qw ?_ (by exact qzR);refine qw ?_ (by exact wp2);refine qw ?_ (by exact wp1);exact qzQ
end Go.Proofs.YtiiegfkjmnoijaaGreatDoor
