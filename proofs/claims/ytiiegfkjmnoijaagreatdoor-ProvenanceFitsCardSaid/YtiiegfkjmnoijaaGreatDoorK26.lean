import Derived.Test.YtiiegfkjmnoijaaGreatDoorRows
import Derived.JoinedOf
import Derived.KernelRfl
import Derived.Test.YtiiegfkjmnoijaaGreatDoorK0
import Derived.Test.YtiiegfkjmnoijaaGreatDoorK20
import Derived.Test.YtiiegfkjmnoijaaGreatDoorK21
import Derived.Test.YtiiegfkjmnoijaaGreatDoorK22
import Derived.Test.YtiiegfkjmnoijaaGreatDoorK23
import Derived.Test.YtiiegfkjmnoijaaGreatDoorK24
import Derived.Test.YtiiegfkjmnoijaaGreatDoorK25
set_option linter.all false
namespace Go.Proofs.YtiiegfkjmnoijaaGreatDoor
open Go
set_option maxRecDepth 100000
theorem qct:(λ(P:Program) (f:FuncId) (fn:Func) (s:ChangeSpec) (c:OpenClaim)=>(c.wf (OpenSpec.ofChange s):Bool)) Tryz.prog 8 Tryz.f8 Rows.provenanceFitsSpec Rows.provenanceFitsRow=true:=by kernel_rfl
theorem qcu:(λ(P:Program) (f:FuncId) (fn:Func) (s:ChangeSpec) (c:OpenClaim)=>(fn.params.all (P.readableRec ·):Bool)) Tryz.prog 8 Tryz.f8 Rows.provenanceFitsSpec Rows.provenanceFitsRow=true:=by kernel_rfl
theorem qcv:(λ(P:Program) (f:FuncId) (fn:Func) (s:ChangeSpec) (c:OpenClaim)=>(namedTie P c.named s.vars:Bool)) Tryz.prog 8 Tryz.f8 Rows.provenanceFitsSpec Rows.provenanceFitsRow=true:=by kernel_rfl
theorem qcw:(λ(P:Program) (f:FuncId) (fn:Func) (s:ChangeSpec) (c:OpenClaim)=>((c.stops== []):Bool)) Tryz.prog 8 Tryz.f8 Rows.provenanceFitsSpec Rows.provenanceFitsRow=true:=by kernel_rfl
theorem qcx:(λ(P:Program) (f:FuncId) (fn:Func) (s:ChangeSpec) (c:OpenClaim)=>((c.knobs== []):Bool)) Tryz.prog 8 Tryz.f8 Rows.provenanceFitsSpec Rows.provenanceFitsRow=true:=by kernel_rfl
theorem PY:(λ(P:Program) (f:FuncId) (fn:Func) (s:ChangeSpec) (c:OpenClaim)=>((c.maps==(fn.params.toList++s.plain.varTypes P).any (P.mapsRec ·)):Bool)) Tryz.prog 8 Tryz.f8 Rows.provenanceFitsSpec Rows.provenanceFitsRow=true:=by kernel_rfl
theorem PZ:(λ(P:Program) (f:FuncId) (fn:Func) (s:ChangeSpec) (c:OpenClaim)=>((c.ifaces==(fn.params.toList++s.plain.varTypes P).any (P.ifacesRec ·)):Bool)) Tryz.prog 8 Tryz.f8 Rows.provenanceFitsSpec Rows.provenanceFitsRow=true:=by kernel_rfl
theorem P0:(λ(P:Program) (f:FuncId) (fn:Func) (s:ChangeSpec) (c:OpenClaim)=>((c.mapsOut==P.mapsAmong fn.resultTypes.toList):Bool)) Tryz.prog 8 Tryz.f8 Rows.provenanceFitsSpec Rows.provenanceFitsRow=true:=by kernel_rfl
theorem P3:(λ(P:Program) (f:FuncId) (fn:Func) (s:ChangeSpec) (c:OpenClaim)=>((c.loops==(fn.params.toList++s.plain.varTypes P).any (P.loopsFrom ·)):Bool)) Tryz.prog 8 Tryz.f8 Rows.provenanceFitsSpec Rows.provenanceFitsRow=true:=by kernel_rfl
theorem P4:(λ(P:Program) (f:FuncId) (fn:Func) (s:ChangeSpec) (c:OpenClaim)=>((c.wideKeys==(fn.params.toList++s.plain.varTypes P++fn.resultTypes.toList).any (P.wideKeysFrom ·)):Bool)) Tryz.prog 8 Tryz.f8 Rows.provenanceFitsSpec Rows.provenanceFitsRow=true:=by kernel_rfl
theorem P5:(λ(P:Program) (f:FuncId) (fn:Func) (s:ChangeSpec) (c:OpenClaim)=>(s.vars.all (P.varReadable ·):Bool)) Tryz.prog 8 Tryz.f8 Rows.provenanceFitsSpec Rows.provenanceFitsRow=true:=by kernel_rfl
theorem P6:(λ(P:Program) (f:FuncId) (fn:Func) (s:ChangeSpec) (c:OpenClaim)=>(fn.resultTypes.all (λt=>P.readableRec t&&decide (t<P.types.size)):Bool)) Tryz.prog 8 Tryz.f8 Rows.provenanceFitsSpec Rows.provenanceFitsRow=true:=by kernel_rfl
theorem P9:(λ(P:Program) (f:FuncId) (fn:Func) (s:ChangeSpec) (c:OpenClaim)=>((c.ifacesOut==fn.resultTypes.toList.any (P.ifacesRec ·)):Bool)) Tryz.prog 8 Tryz.f8 Rows.provenanceFitsSpec Rows.provenanceFitsRow=true:=by kernel_rfl
theorem Rb:(λ(P:Program) (f:FuncId) (fn:Func) (s:ChangeSpec) (c:OpenClaim)=>((c.loopsOut==fn.resultTypes.toList.any (P.loopsFrom ·)):Bool)) Tryz.prog 8 Tryz.f8 Rows.provenanceFitsSpec Rows.provenanceFitsRow=true:=by kernel_rfl
theorem Re:(λ(P:Program) (f:FuncId) (fn:Func) (s:ChangeSpec) (c:OpenClaim)=>((c.plainKeys==P.plainKeys):Bool)) Tryz.prog 8 Tryz.f8 Rows.provenanceFitsSpec Rows.provenanceFitsRow=true:=by kernel_rfl
theorem Rf:(λ(P:Program) (f:FuncId) (fn:Func) (s:ChangeSpec) (c:OpenClaim)=>(c.shortTexts.isNone:Bool)) Tryz.prog 8 Tryz.f8 Rows.provenanceFitsSpec Rows.provenanceFitsRow=true:=by kernel_rfl
theorem Rj:(λ(P:Program) (f:FuncId) (fn:Func) (s:ChangeSpec) (c:OpenClaim)=>((c.kinds==(if c.domain.isEmpty then [] else fn.params.toList.map λt=>match P.underlying t with|some (.int k)=>some k|_=>none)):Bool)) Tryz.prog 8 Tryz.f8 Rows.provenanceFitsSpec Rows.provenanceFitsRow=true:=by kernel_rfl
theorem Rk:(λ(P:Program) (f:FuncId) (fn:Func) (s:ChangeSpec) (c:OpenClaim)=>((c.pinned==c.pinnedBy):Bool)) Tryz.prog 8 Tryz.f8 Rows.provenanceFitsSpec Rows.provenanceFitsRow=true:=by kernel_rfl
theorem Rl:(λ(P:Program) (f:FuncId) (fn:Func) (s:ChangeSpec) (c:OpenClaim)=>((c.veiled==(fn.params.toList++s.plain.varTypes P++fn.resultTypes.toList).any (P.veiledRec ·)):Bool)) Tryz.prog 8 Tryz.f8 Rows.provenanceFitsSpec Rows.provenanceFitsRow=true:=by kernel_rfl
theorem Rm:(λ(P:Program) (f:FuncId) (fn:Func) (s:ChangeSpec) (c:OpenClaim)=>(c.veiledFits P fn.params.toList (fn.params.toList++s.plain.varTypes P++fn.resultTypes.toList):Bool)) Tryz.prog 8 Tryz.f8 Rows.provenanceFitsSpec Rows.provenanceFitsRow=true:=by kernel_rfl
theorem qF{a b:Bool}(h1:a=true)(h2:b=true):(a&&b)=true:=by rw[h1,h2];rfl
theorem BB:joinedFacts Tryz.prog 8 Tryz.f8 Rows.provenanceFitsSpec Rows.provenanceFitsRow=true:=by
 unfold joinedFacts;refine qF ?_ (by exact Rm);refine qF ?_ (by exact Rl);refine qF ?_ (by exact Rk);refine qF ?_ (by exact Rj);refine qF ?_ (by exact Ri);refine qF ?_ (by exact Rh);refine qF ?_ (by exact qcK);refine qF ?_ (by exact qcJ);refine qF ?_ (by exact Rf);refine qF ?_ (by exact Re);refine qF ?_ (by exact Rb);refine qF ?_ (by exact P9);refine qF ?_ (by exact P6);refine qF ?_ (by exact P5);refine qF ?_ (by exact P4);refine qF ?_ (by exact P3);refine qF ?_ (by exact P0);refine qF ?_ (by exact PZ);refine qF ?_ (by exact PY);refine qF ?_ (by exact PX);refine qF ?_ (by exact PW);refine qF ?_ (by exact PV);refine qF ?_ (by exact qcy);refine qF ?_ (by exact wp8);refine qF ?_ (by exact qcx);refine qF ?_ (by exact wp6);refine qF ?_ (by exact qcw);refine qF ?_ (by exact qcv);refine qF ?_ (by exact qcu);refine qF ?_ (by exact wp2);refine qF ?_ (by exact wp1);exact qct
end Go.Proofs.YtiiegfkjmnoijaaGreatDoor
