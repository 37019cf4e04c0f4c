import Derived.Shelf.Strings.BuilderX
import Derived.Shelf.RegionOpenPlain
import Derived.Lib.Strings
import Derived.Lib.Slices
import Derived.Lib.Walk
import Derived.Lib.Bytealg
import Derived.WalkKit
import Derived.Laws.Externs
import Derived.Test.YtmieflnoheifbaaGreatDoorProg
import Derived.Test.YtmieflnoheifbaaGreatDoorK2
set_option linter.all false
section
namespace Go.Proofs
open Go.Shelf Go.RowKit
set_option maxHeartbeats 1000000 in
set_option maxRecDepth 100000 in
theorem qpd(s:ByteArray)(c:Int)(w:World):
  Calls Tryz.prog 319 #[.string s,.int .u8 c] w λe w'=>e= .returned (.int .i64 (Lib.indexByte s.data.toList c.toNat.toUInt8))∧w'=w:=by
 go_enter Tryz.func319,Tryz.ntmps319
 go_wp2
 rw[run_callFunc_extern Tryz.func365 (by kernel_rfl) (by kernel_rfl) (by kernel_rfl) (e:=Extern.BytealgIndexByte.indexByte) (by kernel_rfl)];rw[Lib.run_indexByteString];simp only[Result.andThen];rw[Oper.upon_value]
 go_wp2
 all_goals (go_ret;exact⟨rfl,rfl⟩)
end Go.Proofs
end
section
section
namespace AF
open Go
abbrev MV(d a:Nat):RO:=⟨some d,none,.mv,[.t a]⟩
abbrev MC(d:Nat)(v:AV):RO:=⟨some d,none,.mv,[.c v]⟩
abbrev MG(d j:Nat)(u:Bool)(a:Nat):RO:=⟨some d,some (j,u),.mv,[.t a]⟩
abbrev LD(d a:Nat):RO:=⟨some d,none,.load none,[.t a]⟩
abbrev O1(d:Nat)(op:R)(a:Nat):RO:=⟨some d,none,op,[.t a]⟩
abbrev O2(d:Nat)(op:R)(a b:Nat):RO:=⟨some d,none,op,[.t a,.t b]⟩
abbrev OC(d:Nat)(op:R)(a:Nat)(v:AV):RO:=⟨some d,none,op,[.t a,.c v]⟩
abbrev ON(d:Nat)(op:R)(xs:List X):RO:=⟨some d,none,op,xs⟩
abbrev P1(d j:Nat)(u:Bool)(op:R)(a:Nat):RO:=⟨some d,some (j,u),op,[.t a]⟩
abbrev P2(d j:Nat)(u:Bool)(op:R)(a b:Nat):RO:=⟨some d,some (j,u),op,[.t a,.t b]⟩
abbrev PC(d j:Nat)(u:Bool)(op:R)(a:Nat)(v:AV):RO:=⟨some d,some (j,u),op,[.t a,.c v]⟩
abbrev PN(d j:Nat)(u:Bool)(op:R)(xs:List X):RO:=⟨some d,some (j,u),op,xs⟩
abbrev ST(n a b:Nat):RO:=⟨none,none,.store n,[.t a,.t b]⟩
abbrev BI(d:Nat)(op:BinOp)(a b:Nat):RO:=⟨some d,none,.bin op,[.t a,.t b]⟩
abbrev BC(d:Nat)(op:BinOp)(a:Nat)(v:AV):RO:=⟨some d,none,.bin op,[.t a,.c v]⟩
abbrev i6(n:Int):AV:= .int .i64 n
end AF
end
end
section
section
namespace AF
open Go
abbrev PT(d a b:Nat):RO:=⟨some d,none,.pick,[.t a,.c (.bool true),.t b]⟩
abbrev PF(d a b:Nat):RO:=⟨some d,none,.pick,[.t a,.t b,.c (.bool false)]⟩
abbrev QT(d j:Nat)(u:Bool)(a b:Nat):RO:=⟨some d,some (j,u),.pick,[.t a,.c (.bool true),.t b]⟩
abbrev QF(d j:Nat)(u:Bool)(a b:Nat):RO:=⟨some d,some (j,u),.pick,[.t a,.t b,.c (.bool false)]⟩
end AF
end
end
namespace AF
open Go
abbrev vN(d k a:Nat):RO:=O1 d (.fldA k) a
abbrev v7(d j k a:Nat):RO:=P1 d j false (.fldA k) a
abbrev v8(d j a:Nat):RO:=P1 d j false (.load none) a
abbrev vQ(d j:Nat)(o:R)(a:Nat):RO:=P1 d j false o a
abbrev vR(d j:Nat)(o:R)(a b:Nat):RO:=P2 d j false o a b
abbrev vS(d j a:Nat):RO:=MG d j false a
abbrev vT(d j:Nat)(o:R)(a:Nat)(v:AV):RO:=PC d j false o a v
abbrev vO(d:Nat)(n:Int):RO:=MC d (i6 n)
abbrev vP(d:Nat)(o:BinOp)(a:Nat)(n:Int):RO:=BC d o a (i6 n)
abbrev vY:List RO->C:=C.ops
@[go_sem]def vU(l:List RO)(c:C):C:=(C.ops l).seq c
@[go_sem]def vX(l:List RO):C:=(C.ops l).seq C.ret
@[go_sem]def vV(n:Nat)(c:C):C:=C.cond (.t n) c C.skip
@[go_sem]def vW(n k:Nat):C:=C.cond (.t n) C.skip (C.exit k)
@[go_sem]def vZ(a x:Nat):C:=C.ops [MV a x,BC (a+1) .add a (i6 1),MV x (a+1)]
@[go_sem]def v6(a x y k:Nat):C:=(C.ops [MV a x,MV (a+1) y,O1 (a+2) .len (a+1),BI (a+3) .lss a (a+2)]).seq (C.cond (.t (a+3)) C.skip (C.exit k))
end AF
