import Derived.Test.YtmieflnoheifbaaGreatDoorRows
import Derived.JoinedOf
import Derived.KernelRfl
import Derived.Test.YtmieflnoheifbaaGreatDoorK0
import Derived.Test.YtmieflnoheifbaaGreatDoorK20
import Derived.Test.YtmieflnoheifbaaGreatDoorK21
import Derived.Test.YtmieflnoheifbaaGreatDoorK22
import Derived.Test.YtmieflnoheifbaaGreatDoorK23
import Derived.Test.YtmieflnoheifbaaGreatDoorK24
import Derived.Test.YtmieflnoheifbaaGreatDoorK25
set_option linter.all false
namespace Go.Proofs.YtmieflnoheifbaaGreatDoor
open Go
set_option maxRecDepth 100000
theorem PW:(λ(P:Program) (f:FuncId) (fn:Func) (s:ChangeSpec) (c:OpenClaim)=>(c.wf (OpenSpec.ofChange s):Bool)) Tryz.prog 3 Tryz.f3 Rows.topFollowedSpec Rows.topFollowedRow=true:=by kernel_rfl
theorem PX:(λ(P:Program) (f:FuncId) (fn:Func) (s:ChangeSpec) (c:OpenClaim)=>(fn.params.all (P.readableRec ·):Bool)) Tryz.prog 3 Tryz.f3 Rows.topFollowedSpec Rows.topFollowedRow=true:=by kernel_rfl
theorem PY:(λ(P:Program) (f:FuncId) (fn:Func) (s:ChangeSpec) (c:OpenClaim)=>(namedTie P c.named s.vars:Bool)) Tryz.prog 3 Tryz.f3 Rows.topFollowedSpec Rows.topFollowedRow=true:=by kernel_rfl
theorem PZ:(λ(P:Program) (f:FuncId) (fn:Func) (s:ChangeSpec) (c:OpenClaim)=>((c.stops== []):Bool)) Tryz.prog 3 Tryz.f3 Rows.topFollowedSpec Rows.topFollowedRow=true:=by kernel_rfl
theorem P0:(λ(P:Program) (f:FuncId) (fn:Func) (s:ChangeSpec) (c:OpenClaim)=>((c.knobs== []):Bool)) Tryz.prog 3 Tryz.f3 Rows.topFollowedSpec Rows.topFollowedRow=true:=by kernel_rfl
theorem MD:(λ(P:Program) (f:FuncId) (fn:Func) (s:ChangeSpec) (c:OpenClaim)=>((c.maps==(fn.params.toList++s.plain.varTypes P).any (P.mapsRec ·)):Bool)) Tryz.prog 3 Tryz.f3 Rows.topFollowedSpec Rows.topFollowedRow=true:=by kernel_rfl
theorem ME:(λ(P:Program) (f:FuncId) (fn:Func) (s:ChangeSpec) (c:OpenClaim)=>((c.ifaces==(fn.params.toList++s.plain.varTypes P).any (P.ifacesRec ·)):Bool)) Tryz.prog 3 Tryz.f3 Rows.topFollowedSpec Rows.topFollowedRow=true:=by kernel_rfl
theorem MF:(λ(P:Program) (f:FuncId) (fn:Func) (s:ChangeSpec) (c:OpenClaim)=>((c.mapsOut==P.mapsAmong fn.resultTypes.toList):Bool)) Tryz.prog 3 Tryz.f3 Rows.topFollowedSpec Rows.topFollowedRow=true:=by kernel_rfl
theorem MH:(λ(P:Program) (f:FuncId) (fn:Func) (s:ChangeSpec) (c:OpenClaim)=>((c.loops==(fn.params.toList++s.plain.varTypes P).any (P.loopsFrom ·)):Bool)) Tryz.prog 3 Tryz.f3 Rows.topFollowedSpec Rows.topFollowedRow=true:=by kernel_rfl
theorem MI:(λ(P:Program) (f:FuncId) (fn:Func) (s:ChangeSpec) (c:OpenClaim)=>((c.wideKeys==(fn.params.toList++s.plain.varTypes P++fn.resultTypes.toList).any (P.wideKeysFrom ·)):Bool)) Tryz.prog 3 Tryz.f3 Rows.topFollowedSpec Rows.topFollowedRow=true:=by kernel_rfl
theorem MJ:(λ(P:Program) (f:FuncId) (fn:Func) (s:ChangeSpec) (c:OpenClaim)=>(s.vars.all (P.varReadable ·):Bool)) Tryz.prog 3 Tryz.f3 Rows.topFollowedSpec Rows.topFollowedRow=true:=by kernel_rfl
theorem MK:(λ(P:Program) (f:FuncId) (fn:Func) (s:ChangeSpec) (c:OpenClaim)=>(fn.resultTypes.all (λt=>P.readableRec t&&decide (t<P.types.size)):Bool)) Tryz.prog 3 Tryz.f3 Rows.topFollowedSpec Rows.topFollowedRow=true:=by kernel_rfl
theorem ML:(λ(P:Program) (f:FuncId) (fn:Func) (s:ChangeSpec) (c:OpenClaim)=>((c.ifacesOut==fn.resultTypes.toList.any (P.ifacesRec ·)):Bool)) Tryz.prog 3 Tryz.f3 Rows.topFollowedSpec Rows.topFollowedRow=true:=by kernel_rfl
theorem MM:(λ(P:Program) (f:FuncId) (fn:Func) (s:ChangeSpec) (c:OpenClaim)=>((c.loopsOut==fn.resultTypes.toList.any (P.loopsFrom ·)):Bool)) Tryz.prog 3 Tryz.f3 Rows.topFollowedSpec Rows.topFollowedRow=true:=by kernel_rfl
theorem MN:(λ(P:Program) (f:FuncId) (fn:Func) (s:ChangeSpec) (c:OpenClaim)=>((c.plainKeys==P.plainKeys):Bool)) Tryz.prog 3 Tryz.f3 Rows.topFollowedSpec Rows.topFollowedRow=true:=by kernel_rfl
theorem MO:(λ(P:Program) (f:FuncId) (fn:Func) (s:ChangeSpec) (c:OpenClaim)=>(c.shortTexts.isNone:Bool)) Tryz.prog 3 Tryz.f3 Rows.topFollowedSpec Rows.topFollowedRow=true:=by kernel_rfl
theorem MS:(λ(P:Program) (f:FuncId) (fn:Func) (s:ChangeSpec) (c:OpenClaim)=>((c.kinds==(if c.domain.isEmpty then [] else fn.params.toList.map λt=>match P.underlying t with|some (.int k)=>some k|_=>none)):Bool)) Tryz.prog 3 Tryz.f3 Rows.topFollowedSpec Rows.topFollowedRow=true:=by kernel_rfl
theorem MU:(λ(P:Program) (f:FuncId) (fn:Func) (s:ChangeSpec) (c:OpenClaim)=>((c.pinned==c.pinnedBy):Bool)) Tryz.prog 3 Tryz.f3 Rows.topFollowedSpec Rows.topFollowedRow=true:=by kernel_rfl
theorem MW:(λ(P:Program) (f:FuncId) (fn:Func) (s:ChangeSpec) (c:OpenClaim)=>((c.veiled==(fn.params.toList++s.plain.varTypes P++fn.resultTypes.toList).any (P.veiledRec ·)):Bool)) Tryz.prog 3 Tryz.f3 Rows.topFollowedSpec Rows.topFollowedRow=true:=by kernel_rfl
theorem MX:(λ(P:Program) (f:FuncId) (fn:Func) (s:ChangeSpec) (c:OpenClaim)=>(c.veiledFits P fn.params.toList (fn.params.toList++s.plain.varTypes P++fn.resultTypes.toList):Bool)) Tryz.prog 3 Tryz.f3 Rows.topFollowedSpec Rows.topFollowedRow=true:=by kernel_rfl
theorem qw{a b:Bool}(h1:a=true)(h2:b=true):(a&&b)=true:=by rw[h1,h2];rfl
theorem YF:joinedFacts Tryz.prog 3 Tryz.f3 Rows.topFollowedSpec Rows.topFollowedRow=true:=by
 unfold joinedFacts;refine qw ?_ (by exact MX);refine qw ?_ (by exact MW);refine qw ?_ (by exact MU);refine qw ?_ (by exact MS);refine qw ?_ (by exact MQ);refine qw ?_ (by exact MP);refine qw ?_ (by exact Uk);refine qw ?_ (by exact Uj);refine qw ?_ (by exact MO);refine qw ?_ (by exact MN);refine qw ?_ (by exact MM);refine qw ?_ (by exact ML);refine qw ?_ (by exact MK);refine qw ?_ (by exact MJ);refine qw ?_ (by exact MI);refine qw ?_ (by exact MH);refine qw ?_ (by exact MF);refine qw ?_ (by exact ME);refine qw ?_ (by exact MD);refine qw ?_ (by exact MB);refine qw ?_ (by exact MA);refine qw ?_ (by exact Me);refine qw ?_ (by exact P3);refine qw ?_ (by exact wp8);refine qw ?_ (by exact P0);refine qw ?_ (by exact wp6);refine qw ?_ (by exact PZ);refine qw ?_ (by exact PY);refine qw ?_ (by exact PX);refine qw ?_ (by exact wp2);refine qw ?_ (by exact wp1);exact PW
end Go.Proofs.YtmieflnoheifbaaGreatDoor
