import Derived.Test.YthlgfjbghnildaaGreatDoorK0
import Derived.Test.YthlgfjbghnildaaGreatDoorK1
import Derived.Below
import Derived.ChangeSame
import Derived.ChangeShapes
import Derived.CallsIn
import Derived.Carry
import Derived.RowKit
import Derived.WalkKit
import Derived.ProofKit
set_option linter.all false
set_option linter.unusedSimpArgs false
set_option linter.unusedVariables false
set_option linter.unusedSectionVars false
section
namespace AF
open Go
set_option maxRecDepth 4000
def qyT (k:IntKind) (a c:Int):Int:=k.wrap (a*2^(min c.toNat k.bits))
def qxi (k:IntKind) (a c:Int):Int:=a.fdiv (2^(min c.toNat k.bits))
def qxa (k:IntKind) (a c:Int):Int:=k.wrap (BitVec.ofInt k.bits a&&&BitVec.ofInt k.bits c).toNat
def orK (k:IntKind) (a c:Int):Int:=k.wrap (BitVec.ofInt k.bits a|||BitVec.ofInt k.bits c).toNat
def qBc (k:IntKind) (a c:Int):Int:=k.wrap (BitVec.ofInt k.bits a^^^BitVec.ofInt k.bits c).toNat
def qeM (k:IntKind) (a c:Int):Int:=k.wrap (BitVec.ofInt k.bits a&&& ~~~ BitVec.ofInt k.bits c).toNat
theorem qvF {a0:AV} {r:List AV}:qK 0 (a0::r)=a0:=rfl
theorem qwo {a0 v:AV} {r:List AV}:zc 0 (a0::r) v=v::r:=rfl
theorem qvG {a0 a1:AV} {r:List AV}:qK 1 (a0::a1::r)=a1:=rfl
theorem qwp {a0 a1 v:AV} {r:List AV}:zc 1 (a0::a1::r) v=a0::v::r:=rfl
theorem qvH {a0 a1 a2:AV} {r:List AV}:qK 2 (a0::a1::a2::r)=a2:=rfl
theorem qwq {a0 a1 a2 v:AV} {r:List AV}:zc 2 (a0::a1::a2::r) v=a0::a1::v::r:=rfl
theorem qvI {a0 a1 a2 a3:AV} {r:List AV}:qK 3 (a0::a1::a2::a3::r)=a3:=rfl
theorem qwr {a0 a1 a2 a3 v:AV} {r:List AV}:zc 3 (a0::a1::a2::a3::r) v=a0::a1::a2::v::r:=rfl
theorem qvJ {a0 a1 a2 a3 a4:AV} {r:List AV}:qK 4 (a0::a1::a2::a3::a4::r)=a4:=rfl
theorem qws {a0 a1 a2 a3 a4 v:AV} {r:List AV}:zc 4 (a0::a1::a2::a3::a4::r) v=a0::a1::a2::a3::v::r:=rfl
theorem qvK {a0 a1 a2 a3 a4 a5:AV} {r:List AV}:qK 5 (a0::a1::a2::a3::a4::a5::r)=a5:=rfl
theorem qwt {a0 a1 a2 a3 a4 a5 v:AV} {r:List AV}:zc 5 (a0::a1::a2::a3::a4::a5::r) v=a0::a1::a2::a3::a4::v::r:=rfl
theorem qvL {a0 a1 a2 a3 a4 a5 a6:AV} {r:List AV}:qK 6 (a0::a1::a2::a3::a4::a5::a6::r)=a6:=rfl
theorem qwu {a0 a1 a2 a3 a4 a5 a6 v:AV} {r:List AV}:zc 6 (a0::a1::a2::a3::a4::a5::a6::r) v=a0::a1::a2::a3::a4::a5::v::r:=rfl
theorem qvM {a0 a1 a2 a3 a4 a5 a6 a7:AV} {r:List AV}:qK 7 (a0::a1::a2::a3::a4::a5::a6::a7::r)=a7:=rfl
theorem qwv {a0 a1 a2 a3 a4 a5 a6 a7 v:AV} {r:List AV}:zc 7 (a0::a1::a2::a3::a4::a5::a6::a7::r) v=a0::a1::a2::a3::a4::a5::a6::v::r:=rfl
theorem qry {n:Nat} {a0 a1 a2 a3 a4 a5 a6 a7:AV} {r:List AV}:qK (n+8) (a0::a1::a2::a3::a4::a5::a6::a7::r)=qK n r:=rfl
theorem qsy {n:Nat} {a0 a1 a2 a3 a4 a5 a6 a7 v:AV} {r:List AV}:zc (n+8) (a0::a1::a2::a3::a4::a5::a6::a7::r) v=a0::a1::a2::a3::a4::a5::a6::a7::zc n r v:=rfl
theorem qnT {n:Nat} {a0 a1 a2 a3 a4 a5 a6 a7 a8 a9 a10 a11 a12 a13 a14 a15 a16 a17 a18 a19 a20 a21 a22 a23 a24 a25 a26 a27 a28 a29 a30 a31:AV} {r:List AV}:qK (n+32) (a0::a1::a2::a3::a4::a5::a6::a7::a8::a9::a10::a11::a12::a13::a14::a15::a16::a17::a18::a19::a20::a21::a22::a23::a24::a25::a26::a27::a28::a29::a30::a31::r)=qK n r:=rfl
theorem qoN {n:Nat} {a0 a1 a2 a3 a4 a5 a6 a7 a8 a9 a10 a11 a12 a13 a14 a15 a16 a17 a18 a19 a20 a21 a22 a23 a24 a25 a26 a27 a28 a29 a30 a31 v:AV} {r:List AV}:zc (n+32) (a0::a1::a2::a3::a4::a5::a6::a7::a8::a9::a10::a11::a12::a13::a14::a15::a16::a17::a18::a19::a20::a21::a22::a23::a24::a25::a26::a27::a28::a29::a30::a31::r) v=a0::a1::a2::a3::a4::a5::a6::a7::a8::a9::a10::a11::a12::a13::a14::a15::a16::a17::a18::a19::a20::a21::a22::a23::a24::a25::a26::a27::a28::a29::a30::a31::zc n r v:=rfl
theorem qAw {t:List AV} {n:Nat}:ev t (.t n)=qK n t:=rfl
theorem qAv {t:List AV} {v:AV}:ev t (.c v)=v:=rfl
theorem qhW {b:Bool}:(AV.bool b).strip=(AV.bool b):=rfl
theorem qj4 {b:Bool}:(AV.bool b).flag=true:=rfl
theorem qhJ {b:Bool}:(AV.bool b).solid=true:=rfl
theorem qgU {b:Bool}:(AV.bool b).cells= [(AV.bool b)]:=rfl
theorem ql2 {k:IntKind} {n:Int}:(AV.int k n).strip=(AV.int k n):=rfl
theorem qnz {k:IntKind} {n:Int}:(AV.int k n).flag=true:=rfl
theorem qlL {k:IntKind} {n:Int}:(AV.int k n).solid=true:=rfl
theorem qjx {k:IntKind} {n:Int}:(AV.int k n).cells= [(AV.int k n)]:=rfl
theorem ql6 {s:List UInt8}:(AV.str s).strip=(AV.str s):=rfl
theorem qnD {s:List UInt8}:(AV.str s).flag=true:=rfl
theorem qlP {s:List UInt8}:(AV.str s).solid=true:=rfl
theorem qjB {s:List UInt8}:(AV.str s).cells= [(AV.str s)]:=rfl
theorem qpb {n:Nat} {f:Nat→List AV}:(AV.sl n f).strip=(AV.sl n f):=rfl
theorem qrp {n:Nat} {f:Nat→List AV}:(AV.sl n f).flag=true:=rfl
theorem qo0 {n:Nat} {f:Nat→List AV}:(AV.sl n f).solid=true:=rfl
theorem qna {n:Nat} {f:Nat→List AV}:(AV.sl n f).cells= [(AV.sl n f)]:=rfl
theorem ql4 {k v s p l:Nat}:(AV.osl k v s p l).strip=(AV.osl k v s p l):=rfl
theorem qnB {k v s p l:Nat}:(AV.osl k v s p l).flag=true:=rfl
theorem qlN {k v s p l:Nat}:(AV.osl k v s p l).solid=true:=rfl
theorem qjz {k v s p l:Nat}:(AV.osl k v s p l).cells= [(AV.osl k v s p l)]:=rfl
theorem ql0 {c:List AV}:(AV.agg c).strip=(AV.agg c):=rfl
theorem qnx {c:List AV}:(AV.agg c).flag=true:=rfl
theorem qlJ {c:List AV}:(AV.agg c).solid=true:=rfl
theorem ql7 {c:List AV}:(AV.tup c).strip=(AV.tup c):=rfl
theorem qnE {c:List AV}:(AV.tup c).flag=true:=rfl
theorem qjC {c:List AV}:(AV.tup c).cells= [(AV.tup c)]:=rfl
theorem qo8 {c:List AV}:(AV.ip c).strip=(AV.ip c):=rfl
theorem qrm {c:List AV}:(AV.ip c).flag=true:=rfl
theorem qoX {c:List AV}:(AV.ip c).solid=true:=rfl
theorem qm7 {c:List AV}:(AV.ip c).cells= [(AV.ip c)]:=rfl
theorem qpa {k v p:Nat}:(AV.op k v p).strip=(AV.op k v p):=rfl
theorem qro {k v p:Nat}:(AV.op k v p).flag=true:=rfl
theorem qoZ {k v p:Nat}:(AV.op k v p).solid=true:=rfl
theorem qm9 {k v p:Nat}:(AV.op k v p).cells= [(AV.op k v p)]:=rfl
theorem qhZ  :AV.nilp.strip=AV.nilp:=rfl
theorem qj7  :AV.nilp.flag=true:=rfl
theorem qhM  :AV.nilp.solid=true:=rfl
theorem qgX  :AV.nilp.cells= [AV.nilp]:=rfl
theorem qo9  :AV.nl.strip=AV.nl:=rfl
theorem qrn  :AV.nl.flag=true:=rfl
theorem qoY  :AV.nl.solid=true:=rfl
theorem qm8  :AV.nl.cells= [AV.nl]:=rfl
theorem qo6 {f:Fn} {a c:List AV}:(AV.fn f a c).strip=(AV.fn f a c):=rfl
theorem qrk {f:Fn} {a c:List AV}:(AV.fn f a c).flag=true:=rfl
theorem qoW {f:Fn} {a c:List AV}:(AV.fn f a c).solid=true:=rfl
theorem qm6 {f:Fn} {a c:List AV}:(AV.fn f a c).cells= [(AV.fn f a c)]:=rfl
theorem ql8 {k:Nat}:(AV.yld k).strip=(AV.yld k):=rfl
theorem qnF {k:Nat}:(AV.yld k).flag=true:=rfl
theorem qlQ {k:Nat}:(AV.yld k).solid=true:=rfl
theorem qjD {k:Nat}:(AV.yld k).cells= [(AV.yld k)]:=rfl
theorem qfA  :AV.nilfn.strip=AV.nilfn:=rfl
theorem qhb  :AV.nilfn.flag=true:=rfl
theorem qfp  :AV.nilfn.solid=true:=rfl
theorem qeX  :AV.nilfn.cells= [AV.nilfn]:=rfl
theorem ql1  :AV.ifc.strip=AV.ifc:=rfl
theorem qny  :AV.ifc.flag=true:=rfl
theorem qlK  :AV.ifc.solid=true:=rfl
theorem qjw  :AV.ifc.cells= [AV.ifc]:=rfl
theorem qfB  :AV.nilif.strip=AV.nilif:=rfl
theorem qhc  :AV.nilif.flag=true:=rfl
theorem qfq  :AV.nilif.solid=true:=rfl
theorem qeY  :AV.nilif.cells= [AV.nilif]:=rfl
theorem qfE:AV.undef.strip=AV.undef:=rfl
theorem qhf:AV.undef.flag=true:=rfl
theorem qjv {c:List AV}:(AV.agg c).cells=c:=rfl
theorem qo7 {g:Bool} {v:AV}:(AV.gd g v).strip=v:=rfl
theorem qrl {g:Bool} {v:AV}:(AV.gd g v).flag=g:=rfl
theorem qA9 {P:Program} {b:Nat} {r:List RO} {K:Nx} {t:List AV} {h:List AObj} {d:Nat}  {x:X}:opsA P b (⟨some d,none,.mv,[x]⟩::r) K t h=((ev t x).flag=true∧opsA P b r K (zc d t ((ev t x).strip)) h):=by simp only [opsA,stepO,stepA,R.kd,evs,flags,strips,qG,okP,okL,valP,valL,and_true,true_and,and_assoc]
theorem qze {P:Program} {b:Nat} {r:List RO} {K:Nx} {t:List AV} {h:List AObj} {d:Nat}  {x:X} {j:Nat} {u:Bool}:opsA P b (⟨some d,some (j,u),.mv,[x]⟩::r) K t h=(qF (qK j t)=true∧(qx (qK j t) u=true→(ev t x).flag=true)∧opsA P b r K (zc d t (.gd (qx (qK j t) u) ((ev t x).strip))) h):=by simp only [opsA,stepO,zD,R.kd,evs,flags,strips,qG,okP,okL,valP,valL,and_true,true_and,and_assoc]
theorem qy4 {P:Program} {b:Nat} {r:List RO} {K:Nx} {t:List AV} {h:List AObj} {d:Nat} {q:BinOp} {x y:X}:opsA P b (⟨some d,none,.bin q,[x,y]⟩::r) K t h=((ev t x).flag=true∧(ev t y).flag=true∧kC q (ev t x).strip (ev t y).strip∧opsA P b r K (zc d t (kW q (ev t x).strip (ev t y).strip)) h):=by simp only [opsA,stepO,stepA,R.kd,evs,flags,strips,qG,okP,okL,valP,valL,and_true,true_and,and_assoc]
theorem qw2 {P:Program} {b:Nat} {r:List RO} {K:Nx} {t:List AV} {h:List AObj} {d:Nat} {q:BinOp} {x y:X} {j:Nat} {u:Bool}:opsA P b (⟨some d,some (j,u),.bin q,[x,y]⟩::r) K t h=(qF (qK j t)=true∧(qx (qK j t) u=true→(ev t x).flag=true∧(ev t y).flag=true∧kC q (ev t x).strip (ev t y).strip)∧opsA P b r K (zc d t (.gd (qx (qK j t) u) (kW q (ev t x).strip (ev t y).strip))) h):=by simp only [opsA,stepO,zD,R.kd,evs,flags,strips,qG,okP,okL,valP,valL,and_true,true_and,and_assoc]
theorem qwL {P:Program} {b:Nat} {r:List RO} {K:Nx} {t:List AV} {h:List AObj} {d:Nat} {n:Bool} {xs:List X}:opsA P b (⟨some d,none,.bool n,xs⟩::r) K t h=(flags (evs t xs)∧okP (.bool n) (strips (evs t xs))∧opsA P b r K (zc d t (valP (.bool n) (strips (evs t xs)))) h):=by simp only [opsA,stepO,stepA,R.kd,qG]
theorem qs4 {P:Program} {b:Nat} {r:List RO} {K:Nx} {t:List AV} {h:List AObj} {d:Nat} {n:Bool} {xs:List X} {j:Nat} {u:Bool}:opsA P b (⟨some d,some (j,u),.bool n,xs⟩::r) K t h=(qF (qK j t)=true∧(qx (qK j t) u=true→flags (evs t xs)∧okP (.bool n) (strips (evs t xs)))∧opsA P b r K (zc d t (.gd (qx (qK j t) u) (valP (.bool n) (strips (evs t xs))))) h):=by simp only [opsA,stepO,zD,R.kd,qG]
theorem qBa {P:Program} {b:Nat} {r:List RO} {K:Nx} {t:List AV} {h:List AObj} {d:Nat} {q:UnOp} {xs:List X}:opsA P b (⟨some d,none,.un q,xs⟩::r) K t h=(flags (evs t xs)∧okP (.un q) (strips (evs t xs))∧opsA P b r K (zc d t (valP (.un q) (strips (evs t xs)))) h):=by simp only [opsA,stepO,stepA,R.kd,qG]
theorem qzf {P:Program} {b:Nat} {r:List RO} {K:Nx} {t:List AV} {h:List AObj} {d:Nat} {q:UnOp} {xs:List X} {j:Nat} {u:Bool}:opsA P b (⟨some d,some (j,u),.un q,xs⟩::r) K t h=(qF (qK j t)=true∧(qx (qK j t) u=true→flags (evs t xs)∧okP (.un q) (strips (evs t xs)))∧opsA P b r K (zc d t (.gd (qx (qK j t) u) (valP (.un q) (strips (evs t xs))))) h):=by simp only [opsA,stepO,zD,R.kd,qG]
theorem qwO {P:Program} {b:Nat} {r:List RO} {K:Nx} {t:List AV} {h:List AObj} {d:Nat} {k:IntKind} {xs:List X}:opsA P b (⟨some d,none,.conv k,xs⟩::r) K t h=(flags (evs t xs)∧okP (.conv k) (strips (evs t xs))∧opsA P b r K (zc d t (valP (.conv k) (strips (evs t xs)))) h):=by simp only [opsA,stepO,stepA,R.kd,qG]
theorem qs6 {P:Program} {b:Nat} {r:List RO} {K:Nx} {t:List AV} {h:List AObj} {d:Nat} {k:IntKind} {xs:List X} {j:Nat} {u:Bool}:opsA P b (⟨some d,some (j,u),.conv k,xs⟩::r) K t h=(qF (qK j t)=true∧(qx (qK j t) u=true→flags (evs t xs)∧okP (.conv k) (strips (evs t xs)))∧opsA P b r K (zc d t (.gd (qx (qK j t) u) (valP (.conv k) (strips (evs t xs))))) h):=by simp only [opsA,stepO,zD,R.kd,qG]
theorem qsZ {P:Program} {b:Nat} {r:List RO} {K:Nx} {t:List AV} {h:List AObj} {d:Nat} {k:NK} {n:Bool} {xs:List X}:opsA P b (⟨some d,none,.isnil k n,xs⟩::r) K t h=(flags (evs t xs)∧okP (.isnil k n) (strips (evs t xs))∧opsA P b r K (zc d t (valP (.isnil k n) (strips (evs t xs)))) h):=by simp only [opsA,stepO,stepA,R.kd,qG]
theorem qpC {P:Program} {b:Nat} {r:List RO} {K:Nx} {t:List AV} {h:List AObj} {d:Nat} {k:NK} {n:Bool} {xs:List X} {j:Nat} {u:Bool}:opsA P b (⟨some d,some (j,u),.isnil k n,xs⟩::r) K t h=(qF (qK j t)=true∧(qx (qK j t) u=true→flags (evs t xs)∧okP (.isnil k n) (strips (evs t xs)))∧opsA P b r K (zc d t (.gd (qx (qK j t) u) (valP (.isnil k n) (strips (evs t xs))))) h):=by simp only [opsA,stepO,zD,R.kd,qG]
theorem qy1 {P:Program} {b:Nat} {r:List RO} {K:Nx} {t:List AV} {h:List AObj} {d:Nat} {ks:List AK} {n:Bool} {xs:List X}:opsA P b (⟨some d,none,.aeq ks n,xs⟩::r) K t h=(flags (evs t xs)∧okP (.aeq ks n) (strips (evs t xs))∧opsA P b r K (zc d t (valP (.aeq ks n) (strips (evs t xs)))) h):=by simp only [opsA,stepO,stepA,R.kd,qG]
theorem qw0 {P:Program} {b:Nat} {r:List RO} {K:Nx} {t:List AV} {h:List AObj} {d:Nat} {ks:List AK} {n:Bool} {xs:List X} {j:Nat} {u:Bool}:opsA P b (⟨some d,some (j,u),.aeq ks n,xs⟩::r) K t h=(qF (qK j t)=true∧(qx (qK j t) u=true→flags (evs t xs)∧okP (.aeq ks n) (strips (evs t xs)))∧opsA P b r K (zc d t (.gd (qx (qK j t) u) (valP (.aeq ks n) (strips (evs t xs))))) h):=by simp only [opsA,stepO,zD,R.kd,qG]
theorem qy8 {P:Program} {b:Nat} {r:List RO} {K:Nx} {t:List AV} {h:List AObj} {d:Nat} {p:Nat} {n:Option Nat} {xs:List X}:opsA P b (⟨some d,none,.fld p n,xs⟩::r) K t h=(flags (evs t xs)∧okP (.fld p n) (strips (evs t xs))∧opsA P b r K (zc d t (valP (.fld p n) (strips (evs t xs)))) h):=by simp only [opsA,stepO,stepA,R.kd,qG]
theorem qw4 {P:Program} {b:Nat} {r:List RO} {K:Nx} {t:List AV} {h:List AObj} {d:Nat} {p:Nat} {n:Option Nat} {xs:List X} {j:Nat} {u:Bool}:opsA P b (⟨some d,some (j,u),.fld p n,xs⟩::r) K t h=(qF (qK j t)=true∧(qx (qK j t) u=true→flags (evs t xs)∧okP (.fld p n) (strips (evs t xs)))∧opsA P b r K (zc d t (.gd (qx (qK j t) u) (valP (.fld p n) (strips (evs t xs))))) h):=by simp only [opsA,stepO,zD,R.kd,qG]
theorem qy7 {P:Program} {b:Nat} {r:List RO} {K:Nx} {t:List AV} {h:List AObj} {d:Nat} {i:Nat} {xs:List X}:opsA P b (⟨some d,none,.ext i,xs⟩::r) K t h=(flags (evs t xs)∧okP (.ext i) (strips (evs t xs))∧opsA P b r K (zc d t (valP (.ext i) (strips (evs t xs)))) h):=by simp only [opsA,stepO,stepA,R.kd,qG]
theorem qw3 {P:Program} {b:Nat} {r:List RO} {K:Nx} {t:List AV} {h:List AObj} {d:Nat} {i:Nat} {xs:List X} {j:Nat} {u:Bool}:opsA P b (⟨some d,some (j,u),.ext i,xs⟩::r) K t h=(qF (qK j t)=true∧(qx (qK j t) u=true→flags (evs t xs)∧okP (.ext i) (strips (evs t xs)))∧opsA P b r K (zc d t (.gd (qx (qK j t) u) (valP (.ext i) (strips (evs t xs))))) h):=by simp only [opsA,stepO,zD,R.kd,qG]
theorem qsX {P:Program} {b:Nat} {r:List RO} {K:Nx} {t:List AV} {h:List AObj} {d:Nat} {z:List AV} {ps:List (Nat×Nat)} {xs:List X}:opsA P b (⟨some d,none,.build z ps,xs⟩::r) K t h=(flags (evs t xs)∧okP (.build z ps) (strips (evs t xs))∧opsA P b r K (zc d t (valP (.build z ps) (strips (evs t xs)))) h):=by simp only [opsA,stepO,stepA,R.kd,qG]
theorem qpA {P:Program} {b:Nat} {r:List RO} {K:Nx} {t:List AV} {h:List AObj} {d:Nat} {z:List AV} {ps:List (Nat×Nat)} {xs:List X} {j:Nat} {u:Bool}:opsA P b (⟨some d,some (j,u),.build z ps,xs⟩::r) K t h=(qF (qK j t)=true∧(qx (qK j t) u=true→flags (evs t xs)∧okP (.build z ps) (strips (evs t xs)))∧opsA P b r K (zc d t (.gd (qx (qK j t) u) (valP (.build z ps) (strips (evs t xs))))) h):=by simp only [opsA,stepO,zD,R.kd,qG]
theorem qwU {P:Program} {b:Nat} {r:List RO} {K:Nx} {t:List AV} {h:List AObj} {d:Nat} {f:Fn} {n:Nat} {xs:List X}:opsA P b (⟨some d,none,.mkfn f n,xs⟩::r) K t h=(flags (evs t xs)∧okP (.mkfn f n) (strips (evs t xs))∧opsA P b r K (zc d t (valP (.mkfn f n) (strips (evs t xs)))) h):=by simp only [opsA,stepO,stepA,R.kd,qG]
theorem qta {P:Program} {b:Nat} {r:List RO} {K:Nx} {t:List AV} {h:List AObj} {d:Nat} {f:Fn} {n:Nat} {xs:List X} {j:Nat} {u:Bool}:opsA P b (⟨some d,some (j,u),.mkfn f n,xs⟩::r) K t h=(qF (qK j t)=true∧(qx (qK j t) u=true→flags (evs t xs)∧okP (.mkfn f n) (strips (evs t xs)))∧opsA P b r K (zc d t (.gd (qx (qK j t) u) (valP (.mkfn f n) (strips (evs t xs))))) h):=by simp only [opsA,stepO,zD,R.kd,qG]
theorem qwY {P:Program} {b:Nat} {r:List RO} {K:Nx} {t:List AV} {h:List AObj} {d:Nat}  {xs:List X}:opsA P b (⟨some d,none,.slen,xs⟩::r) K t h=(flags (evs t xs)∧okP (.slen) (strips (evs t xs))∧opsA P b r K (zc d t (valP (.slen) (strips (evs t xs)))) h):=by simp only [opsA,stepO,stepA,R.kd,qG]
theorem qtd {P:Program} {b:Nat} {r:List RO} {K:Nx} {t:List AV} {h:List AObj} {d:Nat}  {xs:List X} {j:Nat} {u:Bool}:opsA P b (⟨some d,some (j,u),.slen,xs⟩::r) K t h=(qF (qK j t)=true∧(qx (qK j t) u=true→flags (evs t xs)∧okP (.slen) (strips (evs t xs)))∧opsA P b r K (zc d t (.gd (qx (qK j t) u) (valP (.slen) (strips (evs t xs))))) h):=by simp only [opsA,stepO,zD,R.kd,qG]
theorem qwX {P:Program} {b:Nat} {r:List RO} {K:Nx} {t:List AV} {h:List AObj} {d:Nat}  {xs:List X}:opsA P b (⟨some d,none,.sidx,xs⟩::r) K t h=(flags (evs t xs)∧okP (.sidx) (strips (evs t xs))∧opsA P b r K (zc d t (valP (.sidx) (strips (evs t xs)))) h):=by simp only [opsA,stepO,stepA,R.kd,qG]
theorem qwI {P:Program} {b:Nat} {r:List RO} {K:Nx} {t:List AV} {h:List AObj} {d n1 n2:Nat} {n3:Option Nat}  {xs:List X}:opsA P b (⟨some d,none,(.aidx n1 n2 n3),xs⟩::r) K t h=(flags (evs t xs)∧okP (.aidx n1 n2 n3) (strips (evs t xs))∧opsA P b r K (zc d t (valP (.aidx n1 n2 n3) (strips (evs t xs)))) h):=by simp only [opsA,stepO,stepA,R.kd,qG]
theorem qtc {P:Program} {b:Nat} {r:List RO} {K:Nx} {t:List AV} {h:List AObj} {d:Nat}  {xs:List X} {j:Nat} {u:Bool}:opsA P b (⟨some d,some (j,u),.sidx,xs⟩::r) K t h=(qF (qK j t)=true∧(qx (qK j t) u=true→flags (evs t xs)∧okP (.sidx) (strips (evs t xs)))∧opsA P b r K (zc d t (.gd (qx (qK j t) u) (valP (.sidx) (strips (evs t xs))))) h):=by simp only [opsA,stepO,zD,R.kd,qG]
theorem qs3 {P:Program} {b:Nat} {r:List RO} {K:Nx} {t:List AV} {h:List AObj} {d n1 n2:Nat} {n3:Option Nat}  {xs:List X} {j:Nat} {u:Bool}:opsA P b (⟨some d,some (j,u),(.aidx n1 n2 n3),xs⟩::r) K t h=(qF (qK j t)=true∧(qx (qK j t) u=true→flags (evs t xs)∧okP (.aidx n1 n2 n3) (strips (evs t xs)))∧opsA P b r K (zc d t (.gd (qx (qK j t) u) (valP (.aidx n1 n2 n3) (strips (evs t xs))))) h):=by simp only [opsA,stepO,zD,R.kd,qG]
theorem qwZ {P:Program} {b:Nat} {r:List RO} {K:Nx} {t:List AV} {h:List AObj} {d:Nat} {lo hi:Bool} {xs:List X}:opsA P b (⟨some d,none,.sslc lo hi,xs⟩::r) K t h=(flags (evs t xs)∧okP (.sslc lo hi) (strips (evs t xs))∧opsA P b r K (zc d t (valP (.sslc lo hi) (strips (evs t xs)))) h):=by simp only [opsA,stepO,stepA,R.kd,qG]
theorem qte {P:Program} {b:Nat} {r:List RO} {K:Nx} {t:List AV} {h:List AObj} {d:Nat} {lo hi:Bool} {xs:List X} {j:Nat} {u:Bool}:opsA P b (⟨some d,some (j,u),.sslc lo hi,xs⟩::r) K t h=(qF (qK j t)=true∧(qx (qK j t) u=true→flags (evs t xs)∧okP (.sslc lo hi) (strips (evs t xs)))∧opsA P b r K (zc d t (.gd (qx (qK j t) u) (valP (.sslc lo hi) (strips (evs t xs))))) h):=by simp only [opsA,stepO,zD,R.kd,qG]
theorem qA8 {P:Program} {b:Nat} {r:List RO} {K:Nx} {t:List AV} {h:List AObj} {d:Nat} {m:Bool} {xs:List X}:opsA P b (⟨some d,none,.mm m,xs⟩::r) K t h=(flags (evs t xs)∧okP (.mm m) (strips (evs t xs))∧opsA P b r K (zc d t (valP (.mm m) (strips (evs t xs)))) h):=by simp only [opsA,stepO,stepA,R.kd,qG]
theorem qzd {P:Program} {b:Nat} {r:List RO} {K:Nx} {t:List AV} {h:List AObj} {d:Nat} {m:Bool} {xs:List X} {j:Nat} {u:Bool}:opsA P b (⟨some d,some (j,u),.mm m,xs⟩::r) K t h=(qF (qK j t)=true∧(qx (qK j t) u=true→flags (evs t xs)∧okP (.mm m) (strips (evs t xs)))∧opsA P b r K (zc d t (.gd (qx (qK j t) u) (valP (.mm m) (strips (evs t xs))))) h):=by simp only [opsA,stepO,zD,R.kd,qG]
theorem qy9 {P:Program} {b:Nat} {r:List RO} {K:Nx} {t:List AV} {h:List AObj} {d:Nat}  {xs:List X}:opsA P b (⟨some d,none,.len,xs⟩::r) K t h=(flags (evs t xs)∧okL h (.len) (strips (evs t xs))∧opsA P b r K (zc d t (valL h (.len) (strips (evs t xs)))) h):=by simp only [opsA,stepO,stepA,R.kd,qG]
theorem qw5 {P:Program} {b:Nat} {r:List RO} {K:Nx} {t:List AV} {h:List AObj} {d:Nat}  {xs:List X} {j:Nat} {u:Bool}:opsA P b (⟨some d,some (j,u),.len,xs⟩::r) K t h=(qF (qK j t)=true∧(qx (qK j t) u=true→flags (evs t xs)∧okL h (.len) (strips (evs t xs)))∧opsA P b r K (zc d t (.gd (qx (qK j t) u) (valL h (.len) (strips (evs t xs))))) h):=by simp only [opsA,stepO,zD,R.kd,qG]
theorem qwR {P:Program} {b:Nat} {r:List RO} {K:Nx} {t:List AV} {h:List AObj} {d:Nat} {z:Nat} {xs:List X}:opsA P b (⟨some d,none,.idxA z,xs⟩::r) K t h=(flags (evs t xs)∧okL h (.idxA z) (strips (evs t xs))∧opsA P b r K (zc d t (valL h (.idxA z) (strips (evs t xs)))) h):=by simp only [opsA,stepO,stepA,R.kd,qG]
theorem qs8 {P:Program} {b:Nat} {r:List RO} {K:Nx} {t:List AV} {h:List AObj} {d:Nat} {z:Nat} {xs:List X} {j:Nat} {u:Bool}:opsA P b (⟨some d,some (j,u),.idxA z,xs⟩::r) K t h=(qF (qK j t)=true∧(qx (qK j t) u=true→flags (evs t xs)∧okL h (.idxA z) (strips (evs t xs)))∧opsA P b r K (zc d t (.gd (qx (qK j t) u) (valL h (.idxA z) (strips (evs t xs))))) h):=by simp only [opsA,stepO,zD,R.kd,qG]
theorem qpy {P:Program} {b:Nat} {r:List RO} {K:Nx} {t:List AV} {h:List AObj} {d:Nat} {m z:Nat} {xs:List X}:opsA P b (⟨some d,none,.idxArr m z,xs⟩::r) K t h=(flags (evs t xs)∧okL h (.idxArr m z) (strips (evs t xs))∧opsA P b r K (zc d t (valL h (.idxArr m z) (strips (evs t xs)))) h):=by simp only [opsA,stepO,stepA,R.kd,qG]
theorem qmF {P:Program} {b:Nat} {r:List RO} {K:Nx} {t:List AV} {h:List AObj} {d:Nat} {m z:Nat} {xs:List X} {j:Nat} {u:Bool}:opsA P b (⟨some d,some (j,u),.idxArr m z,xs⟩::r) K t h=(qF (qK j t)=true∧(qx (qK j t) u=true→flags (evs t xs)∧okL h (.idxArr m z) (strips (evs t xs)))∧opsA P b r K (zc d t (.gd (qx (qK j t) u) (valL h (.idxArr m z) (strips (evs t xs))))) h):=by simp only [opsA,stepO,zD,R.kd,qG]
theorem qwP {P:Program} {b:Nat} {r:List RO} {K:Nx} {t:List AV} {h:List AObj} {d:Nat} {p:Nat} {xs:List X}:opsA P b (⟨some d,none,.fldA p,xs⟩::r) K t h=(flags (evs t xs)∧okL h (.fldA p) (strips (evs t xs))∧opsA P b r K (zc d t (valL h (.fldA p) (strips (evs t xs)))) h):=by simp only [opsA,stepO,stepA,R.kd,qG]
theorem qs7 {P:Program} {b:Nat} {r:List RO} {K:Nx} {t:List AV} {h:List AObj} {d:Nat} {p:Nat} {xs:List X} {j:Nat} {u:Bool}:opsA P b (⟨some d,some (j,u),.fldA p,xs⟩::r) K t h=(qF (qK j t)=true∧(qx (qK j t) u=true→flags (evs t xs)∧okL h (.fldA p) (strips (evs t xs)))∧opsA P b r K (zc d t (.gd (qx (qK j t) u) (valL h (.fldA p) (strips (evs t xs))))) h):=by simp only [opsA,stepO,zD,R.kd,qG]
theorem qwT {P:Program} {b:Nat} {r:List RO} {K:Nx} {t:List AV} {h:List AObj} {d:Nat} {n:Option Nat} {xs:List X}:opsA P b (⟨some d,none,.load n,xs⟩::r) K t h=(flags (evs t xs)∧okL h (.load n) (strips (evs t xs))∧opsA P b r K (zc d t (valL h (.load n) (strips (evs t xs)))) h):=by simp only [opsA,stepO,stepA,R.kd,qG]
theorem qs9 {P:Program} {b:Nat} {r:List RO} {K:Nx} {t:List AV} {h:List AObj} {d:Nat} {n:Option Nat} {xs:List X} {j:Nat} {u:Bool}:opsA P b (⟨some d,some (j,u),.load n,xs⟩::r) K t h=(qF (qK j t)=true∧(qx (qK j t) u=true→flags (evs t xs)∧okL h (.load n) (strips (evs t xs)))∧opsA P b r K (zc d t (.gd (qx (qK j t) u) (valL h (.load n) (strips (evs t xs))))) h):=by simp only [opsA,stepO,zD,R.kd,qG]
theorem qpz {P:Program} {b:Nat} {r:List RO} {K:Nx} {t:List AV} {h:List AObj} {d:Nat}  {xs:List X}:opsA P b (⟨some d,none,.nilchk,xs⟩::r) K t h=(flags (evs t xs)∧okL h (.nilchk) (strips (evs t xs))∧opsA P b r K (zc d t (valL h (.nilchk) (strips (evs t xs)))) h):=by simp only [opsA,stepO,stepA,R.kd,qG]
theorem qmG {P:Program} {b:Nat} {r:List RO} {K:Nx} {t:List AV} {h:List AObj} {d:Nat}  {xs:List X} {j:Nat} {u:Bool}:opsA P b (⟨some d,some (j,u),.nilchk,xs⟩::r) K t h=(qF (qK j t)=true∧(qx (qK j t) u=true→flags (evs t xs)∧okL h (.nilchk) (strips (evs t xs)))∧opsA P b r K (zc d t (.gd (qx (qK j t) u) (valL h (.nilchk) (strips (evs t xs))))) h):=by simp only [opsA,stepO,zD,R.kd,qG]
theorem qzc {P:Program} {b:Nat} {r:List RO} {K:Nx} {t:List AV} {h:List AObj} {d:Nat} {z:Nat} {lo hi:Bool} {xs:List X}:opsA P b (⟨some d,none,.slc z lo hi,xs⟩::r) K t h=(flags (evs t xs)∧okL h (.slc z lo hi) (strips (evs t xs))∧opsA P b r K (zc d t (valL h (.slc z lo hi) (strips (evs t xs)))) h):=by simp only [opsA,stepO,stepA,R.kd,qG]
theorem qw6 {P:Program} {b:Nat} {r:List RO} {K:Nx} {t:List AV} {h:List AObj} {d:Nat} {z:Nat} {lo hi:Bool} {xs:List X} {j:Nat} {u:Bool}:opsA P b (⟨some d,some (j,u),.slc z lo hi,xs⟩::r) K t h=(qF (qK j t)=true∧(qx (qK j t) u=true→flags (evs t xs)∧okL h (.slc z lo hi) (strips (evs t xs)))∧opsA P b r K (zc d t (.gd (qx (qK j t) u) (valL h (.slc z lo hi) (strips (evs t xs))))) h):=by simp only [opsA,stepO,zD,R.kd,qG]
theorem qwW {P:Program} {b:Nat} {r:List RO} {K:Nx} {t:List AV} {h:List AObj} {d:Nat} {c x y:X}:opsA P b (⟨some d,none,.pick,[c,x,y]⟩::r) K t h=(kJ (ev t c) (ev t x) (ev t y)∧opsA P b r K (zc d t (jm (ev t c) (ev t x) (ev t y))) h):=by simp only [opsA,stepO,stepA,R.kd,qG,evs]
theorem qtb {P:Program} {b:Nat} {r:List RO} {K:Nx} {t:List AV} {h:List AObj} {d:Nat} {c x y:X} {j:Nat} {u:Bool}:opsA P b (⟨some d,some (j,u),.pick,[c,x,y]⟩::r) K t h=(qF (qK j t)=true∧(qx (qK j t) u=true→kJ (ev t c) (ev t x) (ev t y))∧opsA P b r K (zc d t (.gd (qx (qK j t) u) (jm (ev t c) (ev t x) (ev t y)))) h):=by simp only [opsA,stepO,zD,R.kd,qG,evs]
theorem qwV {P:Program} {b:Nat} {r:List RO} {K:Nx} {t:List AV} {h:List AObj} {d:Option Nat} {j z:Nat} {ty:TypeId} {xs:List X}:opsA P b (⟨d,none,.nilo j z ty,xs⟩::r) K t h=(flags (evs t xs)∧effE b h (.nilo j z ty) (strips (evs t xs)) t d (opsA P b r K)):=by simp only [opsA,stepO,stepA,R.kd]
theorem qsW {P:Program} {b:Nat} {r:List RO} {K:Nx} {t:List AV} {h:List AObj} {d:Option Nat} {j:Nat} {ty:TypeId} {z:List AV} {xs:List X}:opsA P b (⟨d,none,.alloc j ty z,xs⟩::r) K t h=(flags (evs t xs)∧effE b h (.alloc j ty z) (strips (evs t xs)) t d (opsA P b r K)):=by simp only [opsA,stepO,stepA,R.kd]
theorem qy5 {P:Program} {b:Nat} {r:List RO} {K:Nx} {t:List AV} {h:List AObj} {d:Option Nat} {j:Nat} {ty:TypeId} {xs:List X}:opsA P b (⟨d,none,.box j ty,xs⟩::r) K t h=(flags (evs t xs)∧effE b h (.box j ty) (strips (evs t xs)) t d (opsA P b r K)):=by simp only [opsA,stepO,stepA,R.kd]
theorem qs2 {P:Program} {b:Nat} {r:List RO} {K:Nx} {t:List AV} {h:List AObj} {d:Option Nat} {n:Nat} {xs:List X}:opsA P b (⟨d,none,.store n,xs⟩::r) K t h=(flags (evs t xs)∧effE b h (.store n) (strips (evs t xs)) t d (opsA P b r K)):=by simp only [opsA,stepO,stepA,R.kd]
theorem qs1 {P:Program} {b:Nat} {r:List RO} {K:Nx} {t:List AV} {h:List AObj} {d:Option Nat} {j z m:Nat} {ty:TypeId} {zs:List AV} {xs:List X}:opsA P b (⟨d,none,.mkslc j z ty zs m,xs⟩::r) K t h=(flags (evs t xs)∧effE b h (.mkslc j z ty zs m) (strips (evs t xs)) t d (opsA P b r K)):=by simp only [opsA,stepO,stepA,R.kd]
theorem qwM {P:Program} {b:Nat} {r:List RO} {K:Nx} {t:List AV} {h:List AObj} {d:Option Nat} {j z n:Nat} {ty:TypeId} {zs:List AV} {ps:List (Nat×Nat)} {xs:List X}:opsA P b (⟨d,none,.bslc j z n ty zs ps,xs⟩::r) K t h=(flags (evs t xs)∧effE b h (.bslc j z n ty zs ps) (strips (evs t xs)) t d (opsA P b r K)):=by simp only [opsA,stepO,stepA,R.kd]
theorem qy2 {P:Program} {b:Nat} {r:List RO} {K:Nx} {t:List AV} {h:List AObj} {d:Option Nat} {j z m:Nat} {ty:TypeId} {xs:List X}:opsA P b (⟨d,none,.app j z ty m,xs⟩::r) K t h=(flags (evs t xs)∧effE b h (.app j z ty m) (strips (evs t xs)) t d (opsA P b r K)):=by simp only [opsA,stepO,stepA,R.kd]
theorem qwJ {P:Program} {b:Nat} {r:List RO} {K:Nx} {t:List AV} {h:List AObj} {d:Option Nat} {j:Nat} {ty:TypeId} {xs:List X}:opsA P b (⟨d,none,.apps j ty,xs⟩::r) K t h=(flags (evs t xs)∧effE b h (.apps j ty) (strips (evs t xs)) t d (opsA P b r K)):=by simp only [opsA,stepO,stepA,R.kd]
theorem qwN {P:Program} {b:Nat} {r:List RO} {K:Nx} {t:List AV} {h:List AObj} {d:Option Nat} {f:Nat} {p:Bool} {xs:List X}:opsA P b (⟨d,none,.call f p,xs⟩::r) K t h=qgS P f p (evs t xs) d (opsA P b r K) t h:=by simp only [opsA,stepO,stepA,R.kd]
theorem qs5 {P:Program} {b:Nat} {r:List RO} {K:Nx} {t:List AV} {h:List AObj} {d:Option Nat} {f:Nat} {p:Bool} {xs:List X} {j:Nat} {u:Bool}:opsA P b (⟨d,some (j,u),.call f p,xs⟩::r) K t h=(qF (qK j t)=true∧qjq P f p (qx (qK j t) u) (evs t xs) d (opsA P b r K) t h):=by simp only [opsA,stepO,zD,R.kd]
theorem qsY {P:Program} {b:Nat} {r:List RO} {K:Nx} {t:List AV} {h:List AObj} {d:Option Nat} {xs:List X}:opsA P b (⟨d,none,.callv,xs⟩::r) K t h=(flags (evs t xs)∧qaW P (strips (evs t xs)) d (opsA P b r K) t h):=by simp only [opsA,stepO,stepA,R.kd]
theorem qza {P:Program} {b:Nat} {K:Nx} {t:List AV} {h:List AObj}:opsA P b [] K t h=K t h:=(rfl)
theorem qre {t:List AV}:evs t []= []:=rfl
theorem qnr {t:List AV} {x:X} {r:List X}:evs t (x::r)=ev t x::evs t r:=rfl
theorem qh2:strips []= []:=rfl
theorem qfF {x:AV} {r:List AV}:strips (x::r)=x.strip::strips r:=rfl
theorem qka:flags []=True:=rfl
theorem qhg {x:AV} {r:List AV}:flags (x::r)=(x.flag=true∧flags r):=rfl
theorem qiU {k l:IntKind} {a c:Int}:kW .add (.int k a) (.int l c)= .int k (k.wrap (a+c)):=rfl
theorem qiy {k l:IntKind} {a c:Int}:kC .add (.int k a) (.int l c)=(k=l):=rfl
theorem qi7 {k l:IntKind} {a c:Int}:kW .sub (.int k a) (.int l c)= .int k (k.wrap (a-c)):=rfl
theorem qiL {k l:IntKind} {a c:Int}:kC .sub (.int k a) (.int l c)=(k=l):=rfl
theorem qi1 {k l:IntKind} {a c:Int}:kW .mul (.int k a) (.int l c)= .int k (k.wrap (a*c)):=rfl
theorem qiF {k l:IntKind} {a c:Int}:kC .mul (.int k a) (.int l c)=(k=l):=rfl
theorem qi3 {k l:IntKind} {a c:Int}:kW .quo (.int k a) (.int l c)= .int k (k.wrap (a.tdiv c)):=rfl
theorem qiH {k l:IntKind} {a c:Int}:kC .quo (.int k a) (.int l c)=(k=l∧c≠0):=rfl
theorem qi4 {k l:IntKind} {a c:Int}:kW .rem (.int k a) (.int l c)= .int k (a.tmod c):=rfl
theorem qiI {k l:IntKind} {a c:Int}:kC .rem (.int k a) (.int l c)=(k=l∧c≠0):=rfl
theorem qi5 {k l:IntKind} {a c:Int}:kW .shl (.int k a) (.int l c)= .int k (qyT k a c):=rfl
theorem qiJ {k l:IntKind} {a c:Int}:kC .shl (.int k a) (.int l c)=(0≤c):=rfl
theorem qi6 {k l:IntKind} {a c:Int}:kW .shr (.int k a) (.int l c)= .int k (qxi k a c):=rfl
theorem qiK {k l:IntKind} {a c:Int}:kC .shr (.int k a) (.int l c)=(0≤c):=rfl
theorem qiW {k l:IntKind} {a c:Int}:kW .eql (.int k a) (.int l c)= .bool (decide (a=c)):=rfl
theorem qiA {k l:IntKind} {a c:Int}:kC .eql (.int k a) (.int l c)=(k=l):=rfl
theorem qi2 {k l:IntKind} {a c:Int}:kW .neq (.int k a) (.int l c)= .bool (!decide (a=c)):=rfl
theorem qiG {k l:IntKind} {a c:Int}:kC .neq (.int k a) (.int l c)=(k=l):=rfl
theorem qi0 {k l:IntKind} {a c:Int}:kW .lss (.int k a) (.int l c)= .bool (decide (a<c)):=rfl
theorem qiE {k l:IntKind} {a c:Int}:kC .lss (.int k a) (.int l c)=(k=l):=rfl
theorem qiZ {k l:IntKind} {a c:Int}:kW .leq (.int k a) (.int l c)= .bool (decide (a≤c)):=rfl
theorem qiD {k l:IntKind} {a c:Int}:kC .leq (.int k a) (.int l c)=(k=l):=rfl
theorem qiY {k l:IntKind} {a c:Int}:kW .gtr (.int k a) (.int l c)= .bool (decide (c<a)):=rfl
theorem qiC {k l:IntKind} {a c:Int}:kC .gtr (.int k a) (.int l c)=(k=l):=rfl
theorem qiX {k l:IntKind} {a c:Int}:kW .geq (.int k a) (.int l c)= .bool (decide (c≤a)):=rfl
theorem qiB {k l:IntKind} {a c:Int}:kC .geq (.int k a) (.int l c)=(k=l):=rfl
theorem qiV {k l:IntKind} {a c:Int}:kW .and (.int k a) (.int l c)= .int k (qxa k a c):=rfl
theorem qiz {k l:IntKind} {a c:Int}:kC .and (.int k a) (.int l c)=(k=l):=rfl
theorem qmZ {k l:IntKind} {a c:Int}:kW .or (.int k a) (.int l c)= .int k (orK k a c):=rfl
theorem qmY {k l:IntKind} {a c:Int}:kC .or (.int k a) (.int l c)=(k=l):=rfl
theorem qi8 {k l:IntKind} {a c:Int}:kW .xor (.int k a) (.int l c)= .int k (qBc k a c):=rfl
theorem qiM {k l:IntKind} {a c:Int}:kC .xor (.int k a) (.int l c)=(k=l):=rfl
theorem qdL {k l:IntKind} {a c:Int}:kW .andNot (.int k a) (.int l c)= .int k (qeM k a c):=rfl
theorem qdK {k l:IntKind} {a c:Int}:kC .andNot (.int k a) (.int l c)=(k=l):=rfl
theorem qi9 {s u:List UInt8}:kW .add (.str s) (.str u)= .str (s++u):=rfl
theorem qiN {s u:List UInt8}:kC .add (.str s) (.str u)=(s.length+u.length≤9223372036854775807):=rfl
theorem qja {s u:List UInt8}:kW .eql (.str s) (.str u)= .bool (decide (s=u)):=rfl
theorem qiO {s u:List UInt8}:kC .eql (.str s) (.str u)=True:=rfl
theorem qjf {s u:List UInt8}:kW .neq (.str s) (.str u)= .bool (!decide (s=u)):=rfl
theorem qiT {s u:List UInt8}:kC .neq (.str s) (.str u)=True:=rfl
theorem qje {s u:List UInt8}:kW .lss (.str s) (.str u)= .bool (Op.bytesLess s u):=rfl
theorem qiS {s u:List UInt8}:kC .lss (.str s) (.str u)=True:=rfl
theorem qjd {s u:List UInt8}:kW .leq (.str s) (.str u)= .bool (Op.bytesLess s u||decide (s=u)):=rfl
theorem qiR {s u:List UInt8}:kC .leq (.str s) (.str u)=True:=rfl
theorem qjc {s u:List UInt8}:kW .gtr (.str s) (.str u)= .bool (!(Op.bytesLess s u||decide (s=u))):=rfl
theorem qiQ {s u:List UInt8}:kC .gtr (.str s) (.str u)=True:=rfl
theorem qjb {s u:List UInt8}:kW .geq (.str s) (.str u)= .bool (!Op.bytesLess s u):=rfl
theorem qiP {s u:List UInt8}:kC .geq (.str s) (.str u)=True:=rfl
theorem qmo {n p q:Bool}:valP (.bool n) [.bool p,.bool q]= .bool (n !=(p==q)):=rfl
theorem qoo {n p q:Bool}:okP (.bool n) [.bool p,.bool q]=True:=rfl
theorem qpu {p:Bool}:valP (.un .not) [.bool p]= .bool (!p):=rfl
theorem qr5 {p:Bool}:okP (.un .not) [.bool p]=True:=rfl
theorem qpt {k:IntKind} {n:Int}:valP (.un .neg) [.int k n]= .int k (k.wrap (0-n)):=rfl
theorem qr4 {k:IntKind} {n:Int}:okP (.un .neg) [.int k n]=True:=rfl
theorem qmp {k l:IntKind} {n:Int}:valP (.conv k) [.int l n]= .int k (k.wrap n):=rfl
theorem qop {k l:IntKind} {n:Int}:okP (.conv k) [.int l n]=True:=rfl
theorem qcy {n:Bool} {x:AV}:valP (.isnil .ptr n) [x]= .bool (n !=(qZ .ptr x).getD false):=rfl
theorem qdk {n:Bool} {x:AV}:okP (.isnil .ptr n) [x]=((qZ .ptr x).isSome=true):=rfl
theorem qco {n:Bool} {x:AV}:valP (.isnil .func n) [x]= .bool (n !=(qZ .func x).getD false):=rfl
theorem qcu {n:Bool} {x:AV}:okP (.isnil .func n) [x]=((qZ .func x).isSome=true):=rfl
theorem qbF {n:Bool} {x:AV}:valP (.isnil .iface n) [x]= .bool (n !=(qZ .iface x).getD false):=rfl
theorem qcg {n:Bool} {x:AV}:okP (.isnil .iface n) [x]=((qZ .iface x).isSome=true):=rfl
theorem qaQ {n:Bool} {m:Nat} {f:Nat→List AV}:valP (.isnil .slice n) [.sl m f]=if m=0 then .anyb else .bool (n !=false):=rfl
theorem qeg {n:Bool} {m:Nat} {f:Nat→List AV}:okP (.isnil .slice n) [.sl m f]=True:=rfl
theorem qdv {n:Bool}:valP (.isnil .slice n) [.nl]= .bool (n !=true):=rfl
theorem qef {n:Bool}:okP (.isnil .slice n) [.nl]=True:=by simp [okP,qZ]
theorem qgZ (A B:Nx) (t:List AV) (h:List AObj):qe0 .anyb A B t h=(A t h∧B t h):=rfl
theorem qhV:AV.strip .anyb= .anyb:=rfl
theorem qj3:AV.flag .anyb=true:=rfl
theorem qhI:AV.solid .anyb=true:=rfl
theorem qgT:AV.cells .anyb= [.anyb]:=rfl
theorem qkM:qZ .ptr .nilp=some true:=rfl
theorem qhp:qZ .func .nilfn=some true:=rfl
theorem qhq:qZ .iface .nilif=some true:=rfl
theorem qrV:qZ .slice .nl=some true:=rfl
theorem qrU {c:List AV}:qZ .ptr (.ip c)=some false:=rfl
theorem qrT {f:Fn} {a c:List AV}:qZ .func (.fn f a c)=some false:=rfl
theorem qoc:qZ .iface .ifc=some false:=rfl
theorem qpq {ks:List AK} {n:Bool} {x y:List AV}:valP (.aeq ks n) [.agg x,.agg y]= .bool (n !=(qX ks x y).getD false):=rfl
theorem qrZ {ks:List AK} {n:Bool} {x y:List AV}:okP (.aeq ks n) [.agg x,.agg y]=((qX ks x y).isSome=true):=rfl
theorem qps {p:Nat} {n:Option Nat} {c:List AV}:valP (.fld p n) [.agg c]=cut c p n:=rfl
theorem qr1 {p:Nat} {n:Option Nat} {c:List AV}:okP (.fld p n) [.agg c]=jv c p n:=rfl
theorem qqT {p:Nat} {c:List AV}:jv c p none=(p<c.length):=rfl
theorem qqU {p n:Nat} {c:List AV}:jv c p (some n)=(p+n≤c.length):=rfl
theorem qpr {i:Nat} {c:List AV}:valP (.ext i) [.tup c]=(c[i]?).getD .undef:=rfl
theorem qr0 {i:Nat} {c:List AV}:okP (.ext i) [.tup c]=(i<c.length):=rfl
theorem qig {z:List AV} {ps:List (Nat×Nat)} {vs:List AV}:valP (.build z ps) vs= .agg (kD z ps vs):=by cases vs<;>rfl
theorem qk0 {z:List AV} {ps:List (Nat×Nat)} {vs:List AV}:okP (.build z ps) vs=km z.length ps vs:=by cases vs<;>rfl
theorem qg8 {n:Nat}:km n [] []=True:=rfl
theorem qe6 {m p n:Nat} {ps:List (Nat×Nat)} {v:AV} {vs:List AV}:km m ((p,n)::ps) (v::vs)=(v.solid=true∧v.cells.length=n∧p+n≤m∧km m ps vs):=rfl
theorem qjZ {z:List AV} {ps:List (Nat×Nat)}:kD z ps []=z:=by cases ps<;>rfl
theorem qg7 {z:List AV} {p n:Nat} {ps:List (Nat×Nat)} {v:AV} {vs:List AV}:kD z ((p,n)::ps) (v::vs)=kD (z.take p++v.cells++z.drop (p+n)) ps vs:=rfl
theorem qmv {f:Fn} {n:Nat} {vs:List AV}:valP (.mkfn f n) vs= .fn f (vs.take n) (vs.drop n):=by cases vs<;>rfl
theorem qos {f:Fn} {n:Nat} {vs:List AV}:okP (.mkfn f n) vs=(n≤vs.length):=by cases vs<;>rfl
theorem qmw {s:List UInt8} {k:IntKind} {i:Int}:valP .sidx [.str s,.int k i]= .int .u8 ((s[i.toNat]?).getD 0).toNat:=rfl
theorem qmn {cs:List AV} {k:IntKind} {i:Int} {n1 n2:Nat} {n3:Option Nat}:valP (.aidx n1 n2 n3) [.agg cs,.int k i]=cut cs (i.toNat*n2) n3:=rfl
theorem qon {cs:List AV} {k:IntKind} {i:Int} {n1 n2:Nat} {n3:Option Nat}:okP (.aidx n1 n2 n3) [.agg cs,.int k i]=((0≤i∧i<n1)∧jv cs (i.toNat*n2) n3):=rfl
theorem qot {s:List UInt8} {k:IntKind} {i:Int}:okP .sidx [.str s,.int k i]=(0≤i∧i<s.length):=rfl
theorem qii {s:List UInt8} {k m:IntKind} {a c:Int}:valP (.sslc true true) [.str s,.int k a,.int m c]= .str ((s.drop (a:Int).toNat).take ((c:Int).toNat-(a:Int).toNat)):=by simp [valP,loB,hiB]
theorem qk2 {s:List UInt8} {k m:IntKind} {a c:Int}:okP (.sslc true true) [.str s,.int k a,.int m c]=(0≤(a:Int)∧(a:Int)≤c∧c≤(s.length:Int)):=by simp [okP,loB,hiB,kR]
theorem qif {g:List AObj} {z n:Nat} {f:Nat→List AV} {k m:IntKind} {a c:Int}:valL g (.slc z true true) [.sl n f,.int k a,.int m c]= .sl ((c:Int).toNat-(a:Int).toNat) (fun i=>f ((a:Int).toNat+i)):=by simp [valL,loB,hiB]
theorem qkZ {g:List AObj} {z n:Nat} {f:Nat→List AV} {k m:IntKind} {a c:Int}:okL g (.slc z true true) [.sl n f,.int k a,.int m c]=((0≤(a:Int)∧(a:Int)≤c∧c≤(n:Int))∧(0<n→(f 0).length=z)):=by simp [okL,loB,hiB,kR,and_assoc]
theorem qid {g:List AObj} {z w v y p n:Nat} {k m:IntKind} {a c:Int}:valL g (.slc z true true) [.osl w v y p n,.int k a,.int m c]= .osl w v y (p+(a:Int).toNat*y) ((c:Int).toNat-(a:Int).toNat):=by simp [valL,loB,hiB]
theorem qkY {g:List AObj} {z w v y p n:Nat} {k m:IntKind} {a c:Int}:okL g (.slc z true true) [.osl w v y p n,.int k a,.int m c]=((0≤(a:Int)∧(a:Int)≤c∧c≤(n:Int))∧y=z∧ze g w v=true∧((a:Int)=0∨(a:Int)<n)):=by simp [okL,loB,hiB,kR,and_assoc]
theorem qmz {s:List UInt8} {k:IntKind} {a:Int}:valP (.sslc true false) [.str s,.int k a]= .str ((s.drop (a:Int).toNat).take (((s.length:Int):Int).toNat-(a:Int).toNat)):=by simp [valP,loB,hiB]
theorem qow {s:List UInt8} {k:IntKind} {a:Int}:okP (.sslc true false) [.str s,.int k a]=(0≤(a:Int)∧(a:Int)≤(s.length:Int)∧(s.length:Int)≤(s.length:Int)):=by simp [okP,loB,hiB,kR]
theorem qmm {g:List AObj} {z n:Nat} {f:Nat→List AV} {k:IntKind} {a:Int}:valL g (.slc z true false) [.sl n f,.int k a]= .sl (((n:Int):Int).toNat-(a:Int).toNat) (fun i=>f ((a:Int).toNat+i)):=by simp [valL,loB,hiB]
theorem qom {g:List AObj} {z n:Nat} {f:Nat→List AV} {k:IntKind} {a:Int}:okL g (.slc z true false) [.sl n f,.int k a]=((0≤(a:Int)∧(a:Int)≤(n:Int)∧(n:Int)≤(n:Int))∧(0<n→(f 0).length=z)):=by simp [okL,loB,hiB,kR,and_assoc]
theorem qmk {g:List AObj} {z w v y p n:Nat} {k:IntKind} {a:Int}:valL g (.slc z true false) [.osl w v y p n,.int k a]= .osl w v y (p+(a:Int).toNat*y) (((n:Int):Int).toNat-(a:Int).toNat):=by simp [valL,loB,hiB]
theorem qok {g:List AObj} {z w v y p n:Nat} {k:IntKind} {a:Int}:okL g (.slc z true false) [.osl w v y p n,.int k a]=((0≤(a:Int)∧(a:Int)≤(n:Int)∧(n:Int)≤(n:Int))∧y=z∧ze g w v=true∧((a:Int)=0∨(a:Int)<n)):=by simp [okL,loB,hiB,kR,and_assoc]
theorem qmy {s:List UInt8} {k:IntKind} {c:Int}:valP (.sslc false true) [.str s,.int k c]= .str ((s.drop (0:Int).toNat).take ((c:Int).toNat-(0:Int).toNat)):=by simp [valP,loB,hiB]
theorem qov {s:List UInt8} {k:IntKind} {c:Int}:okP (.sslc false true) [.str s,.int k c]=(0≤(0:Int)∧(0:Int)≤c∧c≤(s.length:Int)):=by simp [okP,loB,hiB,kR]
theorem qml {g:List AObj} {z n:Nat} {f:Nat→List AV} {k:IntKind} {c:Int}:valL g (.slc z false true) [.sl n f,.int k c]= .sl ((c:Int).toNat-(0:Int).toNat) (fun i=>f ((0:Int).toNat+i)):=by simp [valL,loB,hiB]
theorem qol {g:List AObj} {z n:Nat} {f:Nat→List AV} {k:IntKind} {c:Int}:okL g (.slc z false true) [.sl n f,.int k c]=((0≤(0:Int)∧(0:Int)≤c∧c≤(n:Int))∧(0<n→(f 0).length=z)):=by simp [okL,loB,hiB,kR,and_assoc]
theorem qmj {g:List AObj} {z w v y p n:Nat} {k:IntKind} {c:Int}:valL g (.slc z false true) [.osl w v y p n,.int k c]= .osl w v y (p+(0:Int).toNat*y) ((c:Int).toNat-(0:Int).toNat):=by simp [valL,loB,hiB]
theorem qoj {g:List AObj} {z w v y p n:Nat} {k:IntKind} {c:Int}:okL g (.slc z false true) [.osl w v y p n,.int k c]=((0≤(0:Int)∧(0:Int)≤c∧c≤(n:Int))∧y=z∧ze g w v=true∧((0:Int)=0∨(0:Int)<n)):=by simp [okL,loB,hiB,kR,and_assoc]
theorem qpv {s:List UInt8}  :valP (.sslc false false) [.str s]= .str ((s.drop (0:Int).toNat).take (((s.length:Int):Int).toNat-(0:Int).toNat)):=by simp [valP,loB,hiB]
theorem qr6 {s:List UInt8}  :okP (.sslc false false) [.str s]=(0≤(0:Int)∧(0:Int)≤(s.length:Int)∧(s.length:Int)≤(s.length:Int)):=by simp [okP,loB,hiB,kR]
theorem qpp {g:List AObj} {z n:Nat} {f:Nat→List AV}  :valL g (.slc z false false) [.sl n f]= .sl (((n:Int):Int).toNat-(0:Int).toNat) (fun i=>f ((0:Int).toNat+i)):=by simp [valL,loB,hiB]
theorem qrY {g:List AObj} {z n:Nat} {f:Nat→List AV}  :okL g (.slc z false false) [.sl n f]=((0≤(0:Int)∧(0:Int)≤(n:Int)∧(n:Int)≤(n:Int))∧(0<n→(f 0).length=z)):=by simp [okL,loB,hiB,kR,and_assoc]
theorem qpo {g:List AObj} {z w v y p n:Nat}  :valL g (.slc z false false) [.osl w v y p n]= .osl w v y (p+(0:Int).toNat*y) (((n:Int):Int).toNat-(0:Int).toNat):=by simp [valL,loB,hiB]
theorem qrX {g:List AObj} {z w v y p n:Nat}  :okL g (.slc z false false) [.osl w v y p n]=((0≤(0:Int)∧(0:Int)≤(n:Int)∧(n:Int)≤(n:Int))∧y=z∧ze g w v=true∧((0:Int)=0∨(0:Int)<n)):=by simp [okL,loB,hiB,kR,and_assoc]
theorem qmr {k l:IntKind} {a c:Int}:valP (.mm true) [.int k a,.int l c]= .int k (max a c):=rfl
theorem qmt {k l:IntKind} {a c:Int}:valP (.mm false) [.int k a,.int l c]= .int k (min a c):=rfl
theorem qms {k l m:IntKind} {a c e:Int}:valP (.mm true) [.int k a,.int l c,.int m e]= .int k (max (max a c) e):=rfl
theorem qmu {k l m:IntKind} {a c e:Int}:valP (.mm false) [.int k a,.int l c,.int m e]= .int k (min (min a c) e):=rfl
theorem qr2 {x:Bool} {k l:IntKind} {a c:Int}:okP (.mm x) [.int k a,.int l c]=True:=by simp [okP,kR]
theorem qr3 {x:Bool} {k l m:IntKind} {a c e:Int}:okP (.mm x) [.int k a,.int l c,.int m e]=True:=by simp [okP,kR]
theorem qic {g:List AObj} {n:Nat} {f:Nat→List AV}:valL g .len [.sl n f]= .int .i64 n:=rfl
theorem qkX {g:List AObj} {n:Nat} {f:Nat→List AV}:okL g .len [.sl n f]=True:=rfl
theorem qib {g:List AObj}:valL g .len [.nl]= .int .i64 0:=rfl
theorem qkW {g:List AObj}:okL g .len [.nl]=True:=rfl
theorem qmx {s:List UInt8}:valP .slen [.str s]= .int .i64 s.length:=rfl
theorem qou {s:List UInt8}:okP .slen [.str s]=True:=rfl
theorem qfM {g:List AObj} {k v z p n:Nat}:valL g .len [.osl k v z p n]= .int .i64 n:=rfl
theorem qhw {g:List AObj} {k v z p n:Nat}:okL g .len [.osl k v z p n]=(ze g k v=true):=rfl
theorem qia {g:List AObj} {z n:Nat} {f:Nat→List AV} {k:IntKind} {i:Int}:valL g (.idxA z) [.sl n f,.int k i]= .ip (f i.toNat):=rfl
theorem qkV {g:List AObj} {z n:Nat} {f:Nat→List AV} {k:IntKind} {i:Int}:okL g (.idxA z) [.sl n f,.int k i]=((0≤i∧i<n)∧(f i.toNat).length=z):=rfl
theorem qfL {g:List AObj} {z q v y p n:Nat} {k:IntKind} {i:Int}:valL g (.idxA z) [.osl q v y p n,.int k i]= .op q v (p+i.toNat*y):=rfl
theorem qhv {g:List AObj} {z q v y p n:Nat} {k:IntKind} {i:Int}:okL g (.idxA z) [.osl q v y p n,.int k i]=((0≤i∧i<n)∧y=z∧(cellsOf g q v).isSome=true):=rfl
theorem qh6 {g:List AObj} {m z:Nat} {c:List AV} {k:IntKind} {i:Int}:valL g (.idxArr m z) [.ip c,.int k i]= .ip ((c.drop (i.toNat*z)).take z):=rfl
theorem qkQ {g:List AObj} {m z:Nat} {c:List AV} {k:IntKind} {i:Int}:okL g (.idxArr m z) [.ip c,.int k i]=((0≤i∧i<m)∧c.length=m*z):=rfl
theorem qh7 {g:List AObj} {m z q v p:Nat} {k:IntKind} {i:Int}:valL g (.idxArr m z) [.op q v p,.int k i]= .op q v (p+i.toNat*z):=rfl
theorem qkR {g:List AObj} {m z q v p:Nat} {k:IntKind} {i:Int}:okL g (.idxArr m z) [.op q v p,.int k i]=((0≤i∧i<m)∧(cellsOf g q v).isSome=true):=rfl
theorem qh8 {g:List AObj} {p:Nat} {c:List AV}:valL g (.fldA p) [.ip c]= .ip (c.drop p):=rfl
theorem qkT {g:List AObj} {p:Nat} {c:List AV}:okL g (.fldA p) [.ip c]=(p<c.length):=rfl
theorem qh9 {g:List AObj} {p q v o:Nat}:valL g (.fldA p) [.op q v o]= .op q v (o+p):=rfl
theorem qkU {g:List AObj} {p q v o:Nat}:okL g (.fldA p) [.op q v o]=((cellsOf g q v).isSome=true):=rfl
theorem qme {g:List AObj} {n:Option Nat} {c:List AV}:valL g (.load n) [.ip c]=cut c 0 n:=rfl
theorem qoe {g:List AObj} {n:Option Nat} {c:List AV}:okL g (.load n) [.ip c]=jv c 0 n:=rfl
theorem qmf {g:List AObj} {n:Option Nat} {q v p:Nat}:valL g (.load n) [.op q v p]=cut ((cellsOf g q v).getD []) p n:=rfl
theorem qof {g:List AObj} {n:Option Nat} {q v p:Nat}:okL g (.load n) [.op q v p]=((cellsOf g q v).isSome=true∧jv ((cellsOf g q v).getD []) p n):=rfl
theorem qmh {g:List AObj} {c:List AV}:valL g .nilchk [.ip c]= .ip c:=rfl
theorem qoh {g:List AObj} {c:List AV}:okL g .nilchk [.ip c]=True:=rfl
theorem qmi {g:List AObj} {q v p:Nat}:valL g .nilchk [.op q v p]= .op q v p:=rfl
theorem qoi {g:List AObj} {q v p:Nat}:okL g .nilchk [.op q v p]=((cellsOf g q v).isSome=true):=rfl
theorem qmg {g:List AObj} {f:Fn} {a c:List AV}:valL g .nilchk [.fn f a c]= .fn f a c:=rfl
theorem qog {g:List AObj} {f:Nat} {a c:List AV}:okL g .nilchk [.fn (.func f) a c]=True:=rfl
theorem qnh {c:List AV} {p:Nat}:cut c p none=(c[p]?).getD .undef:=rfl
theorem qni {c:List AV} {p n:Nat}:cut c p (some n)= .agg ((c.drop p).take n):=rfl
theorem qnV {b w:Bool}:qx (.bool b) w=(b==w):=rfl
theorem qkl {g b w:Bool}:qx (.gd g (.bool b)) w=(g&&(b==w)):=rfl
theorem qkm {b:Bool}:qF (.bool b)=true:=rfl
theorem qhi {g b:Bool}:qF (.gd g (.bool b))=true:=rfl
theorem qox {c:Bool} {x y:AV}:kJ (.bool c) x y=((c=true→x.flag=true)∧(c=false→y.flag=true)):=rfl
theorem qlb {g c:Bool} {x y:AV}:kJ (.gd g (.bool c)) x y=(g=true∧(c=true→x.flag=true)∧(c=false→y.flag=true)):=rfl
theorem qlc {c p q:Bool}:jm (.bool c) (.bool p) (.bool q)= .bool ((c&&p)||(!c&&q)):=rfl
theorem qli {c p q gc:Bool}:jm (.gd gc (.bool c)) (.bool p) (.bool q)= .bool ((c&&p)||(!c&&q)):=rfl
theorem qld {c p q gq:Bool}:jm (.bool c) (.bool p) (.gd gq (.bool q))= .bool ((c&&p)||(!c&&q)):=rfl
theorem qlj {c p q gq gc:Bool}:jm (.gd gc (.bool c)) (.bool p) (.gd gq (.bool q))= .bool ((c&&p)||(!c&&q)):=rfl
theorem qle {c p q gp:Bool}:jm (.bool c) (.gd gp (.bool p)) (.bool q)= .bool ((c&&p)||(!c&&q)):=rfl
theorem qlk {c p q gp gc:Bool}:jm (.gd gc (.bool c)) (.gd gp (.bool p)) (.bool q)= .bool ((c&&p)||(!c&&q)):=rfl
theorem qlf {c p q gp gq:Bool}:jm (.bool c) (.gd gp (.bool p)) (.gd gq (.bool q))= .bool ((c&&p)||(!c&&q)):=rfl
theorem qll {c p q gp gq gc:Bool}:jm (.gd gc (.bool c)) (.gd gp (.bool p)) (.gd gq (.bool q))= .bool ((c&&p)||(!c&&q)):=rfl
theorem quc {P:Program} {b:Nat} {Q:Ex→Nx} {t:List AV} {h:List AObj}:qO P b .skip Q t h=Q .normal t h:=(rfl)
theorem qxM {P:Program} {b:Nat} {Q:Ex→Nx} {t:List AV} {h:List AObj} {l:List RO}:qO P b (.ops l) Q t h=opsA P b l (Q .normal) t h:=(rfl)
theorem qxO {P:Program} {b:Nat} {Q:Ex→Nx} {t:List AV} {h:List AObj} {x y:C}:qO P b (.seq x y) Q t h=qO P b x (Ex.andThen (qO P b y Q) Q) t h:=(rfl)
theorem qua {P:Program} {b:Nat} {Q:Ex→Nx} {t:List AV} {h:List AObj} {c:X} {x y:C}:qO P b (.cond c x y) Q t h=qe0 (ev t c) (qO P b x Q) (qO P b y Q) t h:=(rfl)
theorem qqJ {P:Program} {b:Nat} {Q:Ex→Nx} {t:List AV} {h:List AObj} {i:Nat} {x:C}:qO P b (.block i x) Q t h=qO P b x (Ex.inBlock i Q) t h:=(rfl)
theorem qub {P:Program} {b:Nat} {Q:Ex→Nx} {t:List AV} {h:List AObj} {i:Nat}:qO P b (.exit i) Q t h=Q (.exit i) t h:=(rfl)
theorem qxN {P:Program} {b:Nat} {Q:Ex→Nx} {t:List AV} {h:List AObj}:qO P b .ret Q t h=Q .ret t h:=(rfl)
theorem qAa {K:Nx} {Q:Ex→Nx} {t:List AV} {h:List AObj}:Ex.andThen K Q .normal t h=K t h:=(rfl)
theorem qz9 {K:Nx} {Q:Ex→Nx} {t:List AV} {h:List AObj} {i:Nat}:Ex.andThen K Q (.exit i) t h=Q (.exit i) t h:=(rfl)
theorem qAb {K:Nx} {Q:Ex→Nx} {t:List AV} {h:List AObj}:Ex.andThen K Q .ret t h=Q .ret t h:=(rfl)
theorem qAG {i:Nat} {Q:Ex→Nx} {t:List AV} {h:List AObj}:Ex.inBlock i Q .normal t h=Q .normal t h:=(rfl)
theorem qAH {i:Nat} {Q:Ex→Nx} {t:List AV} {h:List AObj}:Ex.inBlock i Q .ret t h=Q .ret t h:=(rfl)
theorem qAF {i j:Nat} {Q:Ex→Nx} {t:List AV} {h:List AObj}:Ex.inBlock i Q (.exit j) t h=if j=i then Q .normal t h else Q (.exit j) t h:=(rfl)
end AF
end
section
namespace AF
open Go
attribute [go_sem] qwI qs3 qmn qon qvF qwo qvG qwp qvH qwq qvI qwr qvJ qws qvK qwt qvL qwu qvM qwv qry qsy qnT qoN qAw qAv qhW qj4 qhJ qgU ql2 qnz qlL qjx ql6 qnD qlP qjB qpb qrp qo0 qna ql4 qnB qlN qjz ql0 qnx qlJ ql7 qnE qjC qo8 qrm qoX qm7 qpa qro qoZ qm9 qhZ qj7 qhM qgX qo9 qrn qoY qm8 qo6 qrk qoW qm6 ql8 qnF qlQ qjD qfA qhb qfp qeX ql1 qny qlK qjw qfB qhc qfq qeY qfE qhf qjv qo7 qrl qA9 qze qy4 qw2 qwL qs4 qBa qzf qwO qs6 qsZ qpC qy1 qw0 qy8 qw4 qy7 qw3 qsX qpA qwU qta qwY qtd qwX qtc qwZ qte qA8 qzd qy9 qw5 qwR qs8 qpy qmF qwP qs7 qwT qs9 qpz qmG qzc qw6 qwW qtb qwV qsW qy5 qs2 qs1 qwM qy2 qwJ qwN qs5 qsY qza qre qnr qh2 qfF qka qhg qiU qiy qi7 qiL qi1 qiF qi3 qiH qi4 qiI qi5 qiJ qi6 qiK qiW qiA qi2 qiG qi0 qiE qiZ qiD qiY qiC qiX qiB qiV qiz qmZ qmY qi8 qiM qdL qdK qi9 qiN qja qiO qjf qiT qje qiS qjd qiR qjc qiQ qjb qiP qmo qoo qpu qr5 qpt qr4 qmp qop qcy qdk qco qcu qbF qcg qaQ qeg qdv qef qgZ qhV qj3 qhI qgT qkM qhp qhq qrV qrU qrT qoc qpq qrZ qps qr1 qqT qqU qpr qr0 qig qk0 qg8 qe6 qjZ qg7 qmv qos qmw qot qii qk2 qif qkZ qid qkY qmz qow qmm qom qmk qok qmy qov qml qol qmj qoj qpv qr6 qpp qrY qpo qrX qmr qmt qms qmu qr2 qr3 qic qkX qib qkW qmx qou qfM qhw qia qkV qfL qhv qh6 qkQ qh7 qkR qh8 qkT qh9 qkU qme qoe qmf qof qmh qoh qmi qoi qmg qog qnh qni qnV qkl qkm qhi qox qlb qlc qli qld qlj qle qlk qlf qll quc qxM qxO qua qqJ qub qxN qAa qz9 qAb qAG qAH qAF
attribute [go_sem] and_true true_and List.drop_zero List.drop_succ_cons List.getElem?_cons_zero List.getElem?_cons_succ Option.getD_some List.length_cons List.length_nil Int.toNat_natCast beq_true imp_self and_self implies_true Bool.and_true Bool.and_false Bool.or_false decide_eq_true_eq Bool.and_eq_true
theorem qlB (t:List AV) (h:List AObj):jD t h []=True:=rfl
theorem qlC (n:Nat) (l:List RV) (t:List AV) (h:List AObj):jD t h (.tmp n::l)=jD t h l:=by simp [jD,RV.ok]
theorem qhF (t:List AV) (h:List AObj):zB t h []= []:=rfl
theorem qhG (n:Nat) (l:List RV) (t:List AV) (h:List AObj):zB t h (.tmp n::l)=qK n t::zB t h l:=rfl
theorem qoK (v:AV):qfh [v]=v:=rfl
theorem qoL (v u:AV) (l:List AV):qfh (v::u::l)= .tup (v::u::l):=rfl
theorem qg0 (c:Bool) (A B:Nx) (t:List AV) (h:List AObj):qe0 (.bool c) A B t h=((c=true→A t h)∧(c=false→B t h)):=rfl
theorem qk {n:Int} (h0: -9223372036854775808≤n) (h1:n≤9223372036854775807):IntKind.i64.wrap n=n:=by
 have e1:(2:Int)^IntKind.bits IntKind.i64=18446744073709551616:=rfl
 have e2:(2:Int)^(IntKind.bits IntKind.i64-1)=9223372036854775808:=rfl
 have e3:IntKind.signed IntKind.i64=true:=rfl
 unfold IntKind.wrap
 rw [e1,e2,e3]
 simp only [Bool.true_and,decide_eq_true_eq]
 split<;>omega
theorem qkg {rs:List RV} {h0:List AObj} {K:AV→List AObj→Prop} {t:List AV} {hh tl:List AObj} {r:AV} (e:hh=h0++tl) (hok:jD t hh rs) (hK:K r h0) (hv:VLe (frz (fun k=>decide (h0.length≤k)) hh 8 (qfh (zB t hh rs))) r):
  fnQ rs h0 K .ret t hh:=by subst e;exact qnO hok hK hv
theorem qn {P:Program} {b:Nat} {x:C} {Q:Ex→Nx} {ι:Type} {t:List AV} {h:List AObj} (T:ι→List AV) (H:ι→List AObj) (inv:ι→Prop) (m:ι→Nat) (i0:ι) (h0:inv i0) (hw:Wk t h (T i0) (H i0))
  (round: ∀i,inv i→ ∀K:Nx,(∀t' h' j,inv j→m j<m i→Wk t' h' (T j) (H j)→K t' h')→qO P b x (Ex.andThen K Q) (T i) (H i)):qO P b (.loop x) Q t h:=by
 refine ⟨fun n t h=> ∃i,inv i∧m i=n∧t=T i∧h=H i,⟨m i0,T i0,H i0,hw,i0,h0,rfl,rfl,rfl⟩,?_⟩
 rintro n t' h' ⟨i,hi,rfl,rfl,rfl⟩
 exact round i hi _ (fun t'' h'' j hj hlt hw=>⟨m j,T j,H j,hlt,hw,j,hj,rfl,rfl,rfl⟩)
def qI (n:Nat) (l:List (Nat×AV)):List AV:=l.foldl (fun t p=>zc p.1 t p.2) (List.replicate n .undef)
theorem kw.nil:kw [] []:=trivial
theorem qg (a:AV):VLe a .undef=True:=by simp [VLe.undef]
theorem qi (a:AV):VLe a a=True:=by simp [VLe.refl]
theorem qd {k:IntKind} {a b:Int} (h:a=b):VLe (.int k a) (.int k b):=h▸VLe.refl _
theorem qj:kw [] []=True:=rfl
theorem qh {a b:AV} {l m:List AV}:kw (a::l) (b::m)=(VLe a b∧kw l m):=rfl
theorem qb {rs:List RV} {h:List AObj} {t:List AV} {r:AV} (hok:jD t h rs) (hv:VLe (frz (fun k=>decide (h.length≤k)) h 8 (qfh (zB t h rs))) r):fnQ rs h (fun r1 h1=>r1=r∧h1=h) .ret t h:=
 qkg (tl:= []) (by simp) hok ⟨rfl,rfl⟩ hv
theorem qc {rs:List RV} {h tl:List AObj} {t:List AV} {r:AV} (hok:jD t (h++tl) rs) (hv:VLe (frz (fun k=>decide (h.length≤k)) (h++tl) 8 (qfh (zB t (h++tl) rs))) r):fnQ rs h (fun r1 h1=>r1=r∧h1=h) .ret t (h++tl):=
 qkg rfl hok ⟨rfl,rfl⟩ hv
section
variable {fz : Nat → Bool} {h : List AObj} {n : Nat}
theorem frz_int {k:IntKind} {a:Int}:frz fz h (n+1) (.int k a)= .int k a:=rfl
theorem frz_bool {a:Bool}:frz fz h (n+1) (.bool a)= .bool a:=rfl
theorem frz_str {a:List UInt8}:frz fz h (n+1) (.str a)= .str a:=rfl
theorem frz_sl {m:Nat} {f:Nat→List AV}:frz fz h (n+1) (.sl m f)= .sl m f:=rfl
theorem frz_nl:frz fz h (n+1) .nl= .nl:=rfl
theorem frz_nilp:frz fz h (n+1) .nilp= .nilp:=rfl
theorem frz_nilfn:frz fz h (n+1) .nilfn= .nilfn:=rfl
theorem frz_ifc:frz fz h (n+1) .ifc= .ifc:=rfl
theorem frz_nilif:frz fz h (n+1) .nilif= .nilif:=rfl
theorem frz_undef:frz fz h (n+1) .undef= .undef:=rfl
theorem frz_ip {cs:List AV}:frz fz h (n+1) (.ip cs)= .ip cs:=rfl
theorem frz_agg {cs:List AV}:frz fz h (n+1) (.agg cs)= .agg (cs.map (frz fz h n)):=rfl
theorem frz_tup {cs:List AV}:frz fz h (n+1) (.tup cs)= .tup (cs.map (frz fz h n)):=rfl
theorem frz_fn {f:Fn} {a b:List AV}:frz fz h (n+1) (.fn f a b)= .fn f (a.map (frz fz h n)) (b.map (frz fz h n)):=rfl
theorem frz_gd {g:Bool} {v:AV}:frz fz h (n+1) (.gd g v)= .gd g (frz fz h n v):=rfl
end
attribute [go_sem] frz_int frz_bool frz_str frz_sl frz_nl frz_nilp frz_nilfn frz_ifc frz_nilif frz_undef frz_ip frz_agg frz_tup frz_fn frz_gd if_true if_false List.map_cons List.map_nil
attribute [go_sem] qg0 qlB qlC qhF qhG qoK qoL
end AF
end
section
namespace AF
open Go
section
variable {h : List AObj} {l : List AObj} {n k v : Nat} {o : AObj} {ty : TypeId} {cs : List AV}
theorem getO_app0:qA h.length (h++l)=l[0]? :=by unfold qA;rw [List.getElem?_append_right (Nat.le_refl _),Nat.sub_self]
theorem getO_app:qA (h.length+n) (h++l)=l[n]? :=by unfold qA;rw [List.getElem?_append_right (by omega),Nat.add_sub_cancel_left]
theorem setO_app0:qE h.length (h++l) o=h++l.set 0 o:=by unfold qE;rw [List.set_append_right _ _ (Nat.le_refl _),Nat.sub_self]
theorem setO_app:qE (h.length+n) (h++l) o=h++l.set n o:=by unfold qE;rw [List.set_append_right _ _ (by omega),Nat.add_sub_cancel_left]
theorem verOf_mem:qv (some (.mem v ty cs))=v:=rfl
theorem verOf_emp:qv (some (.emp v))=v:=rfl
theorem tyOf_mem:qwz (some (.mem v ty cs))=ty:=rfl
theorem site_app:qH (h++l) (h.length+n)=qH l n:=by unfold qH;rw [getO_app];rfl
theorem site_app0:qH (h++l) h.length=qH l 0:=by unfold qH;rw [getO_app0];rfl
theorem site_0_mem {v:Nat}:qH (.mem v ty cs::l) 0=true:=rfl
theorem site_0_emp {v:Nat}:qH (.emp v::l) 0=true:=rfl
theorem site_s:qH (o::l) (n+1)=qH l n:=rfl
theorem cellsOf_app:cellsOf (h++l) (h.length+n) v=cellsOf l n v:=by unfold cellsOf;rw [getO_app];rfl
theorem cellsOf_app0:cellsOf (h++l) h.length v=cellsOf l 0 v:=by unfold cellsOf;rw [getO_app0];rfl
theorem cellsOf_0 {w:Nat}:cellsOf (.mem w ty cs::l) 0 v=if w=v then some cs else none:=rfl
theorem cellsOf_s:cellsOf (o::l) (n+1) v=cellsOf l n v:=rfl
theorem liveS_app:ze (h++l) (h.length+n) v=ze l n v:=by unfold ze;rw [getO_app];rfl
theorem liveS_app0:ze (h++l) h.length v=ze l 0 v:=by unfold ze;rw [getO_app0];rfl
theorem liveS_0_mem {w:Nat}:ze (.mem w ty cs::l) 0 v=(w==v):=rfl
theorem liveS_0_emp {w:Nat}:ze (.emp w::l) 0 v=(w==v):=rfl
theorem liveS_s:ze (o::l) (n+1) v=ze l n v:=rfl
theorem tyOk_mem {t:TypeId}:qmN (some (.mem v t cs)) ty=(t==ty):=rfl
theorem tyOk_emp:qmN (some (.emp v)) ty=true:=rfl
theorem b_add0 {b:Nat}:b+0=b:=rfl
theorem appO_mem {t:TypeId} {ds:List AV} {c m:Nat}:qdH (some (.mem k t ds)) ty v c m cs= .mem (v+1) ty (ds.take c++cs):=rfl
theorem appO_emp {c m:Nat}:qdH (some (.emp k)) ty v c m cs=if m=0 then .emp (v+1) else .mem (v+1) ty cs:=rfl
end
section
variable {b : Nat} {h : List AObj} {t : List AV} {d : Option Nat} {nx : List AV → List AObj → Prop}
theorem qur {j sz:Nat} {ty:TypeId}:effE b h (.nilo j sz ty) [] t d nx=(qH h (b+j)=true∧nx (qG t d (.osl (b+j) (qv (qA (b+j) h)+1) sz 0 0)) (qE (b+j) h (.emp (qv (qA (b+j) h)+1)))):=(rfl)
theorem qq3 {j:Nat} {ty:TypeId} {z:List AV}:effE b h (.alloc j ty z) [] t d nx=(qH h (b+j)=true∧nx (qG t d (.op (b+j) (qv (qA (b+j) h)+1) 0)) (qE (b+j) h (.mem (qv (qA (b+j) h)+1) ty z))):=(rfl)
theorem qxW {j:Nat} {ty:TypeId} {v:AV}:effE b h (.box j ty) [v] t d nx=((qH h (b+j)=true∧v.solid=true)∧nx (qG t d (.op (b+j) (qv (qA (b+j) h)+1) 0)) (qE (b+j) h (.mem (qv (qA (b+j) h)+1) ty v.cells))):=(rfl)
theorem qq6 {n k ver off:Nat} {v:AV}:effE b h (.store n) [.op k ver off,v] t d nx=(((cellsOf h k ver).isSome=true∧v.solid=true∧v.cells.length=n∧off+n≤((cellsOf h k ver).getD []).length)∧
  nx (qG t d (.tup [])) (qE k h (.mem ver (qwz (qA k h)) (((cellsOf h k ver).getD []).take off++v.cells++((cellsOf h k ver).getD []).drop (off+n))))):=(rfl)
theorem qq5 {j sz:Nat} {ty:TypeId} {z:List AV} {bytes:Nat} {l c:Int}:effE b h (.mkslc j sz ty z bytes) [.int .i64 l,.int .i64 c] t d nx=((qH h (b+j)=true∧z.length=sz∧0≤l∧l=c∧c*(bytes:Int)≤140737488355328∧c≤140737488355328)∧
   nx (qG t d (.osl (b+j) (qv (qA (b+j) h)+1) sz 0 l.toNat)) (qE (b+j) h (.mem (qv (qA (b+j) h)+1) ty (zr z l.toNat)))):=(rfl)
theorem quq {j sz n:Nat} {ty:TypeId} {z:List AV} {ps:List (Nat×Nat)} {vs:List AV}:effE b h (.bslc j sz n ty z ps) vs t d nx=((qH h (b+j)=true∧z.length=sz∧km (n*sz) ps vs∧n≤140737488355328)∧
   nx (qG t d (.osl (b+j) (qv (qA (b+j) h)+1) sz 0 n)) (qE (b+j) h (.mem (qv (qA (b+j) h)+1) ty (kD (zr z n) ps vs)))):=by
 cases vs<;>rfl
theorem qq4 {j sz:Nat} {ty:TypeId} {bytes:Nat} {y:AV}:effE b h (.app j sz ty bytes) [.nl,y] t d nx=(((qs h y).isSome=true∧qH h (b+j)=true∧((qs h y).getD (0,[])).2.length=((qs h y).getD (0,[])).1*sz∧
    (((qs h y).getD (0,[])).1:Int)*bytes≤140737488355328∧(((qs h y).getD (0,[])).1:Int)≤140737488355328)∧
   nx (qG t d (.osl (b+j) (qv (qA (b+j) h)+1) sz 0 ((qs h y).getD (0,[])).1))
    (qE (b+j) h (if ((qs h y).getD (0,[])).1=0 then .emp (qv (qA (b+j) h)+1) else .mem (qv (qA (b+j) h)+1) ty ((qs h y).getD (0,[])).2))):=(rfl)
theorem qxV {j sz:Nat} {ty:TypeId} {bytes k ver sz' off m:Nat} {y:AV}:effE b h (.app j sz ty bytes) [.osl k ver sz' off m,y] t d nx=(((qs h y).isSome=true∧ze h k ver=true∧qmN (qA k h) ty=true∧m*sz≤((cellsOf h k ver).getD []).length∧qas (.osl k ver sz' off m) y=true∧sz'=sz∧off=0∧
    ((qs h y).getD (0,[])).2.length=((qs h y).getD (0,[])).1*sz∧
    ((m+((qs h y).getD (0,[])).1:Nat):Int)*bytes≤140737488355328∧((m+((qs h y).getD (0,[])).1:Nat):Int)≤140737488355328)∧
   nx (qG t d (.osl k (ver+1) sz 0 (m+((qs h y).getD (0,[])).1)))
    (qE k h (qdH (qA k h) ty ver (m*sz) ((qs h y).getD (0,[])).1 ((qs h y).getD (0,[])).2))):=(rfl)
theorem qnk {j:Nat} {ty:TypeId} {s:List UInt8}:effE b h (.apps j ty) [.nl,.str s] t d nx=((qH h (b+j)=true∧(s.length:Int)≤140737488355328)∧
   nx (qG t d (.osl (b+j) (qv (qA (b+j) h)+1) 1 0 s.length))
    (qE (b+j) h (if s.length=0 then .emp (qv (qA (b+j) h)+1) else .mem (qv (qA (b+j) h)+1) ty (zM s)))):=(rfl)
theorem qun {j:Nat} {ty:TypeId} {s:List UInt8} {k ver sz' off m:Nat}:effE b h (.apps j ty) [.osl k ver sz' off m,.str s] t d nx=((ze h k ver=true∧qmN (qA k h) ty=true∧m≤((cellsOf h k ver).getD []).length∧sz'=1∧off=0∧((m+s.length:Nat):Int)≤140737488355328)∧
   nx (qG t d (.osl k (ver+1) 1 0 (m+s.length)))
    (qE k h (qdH (qA k h) ty ver m s.length (zM s)))):=(rfl)
theorem qlt {n:Nat} {v:AV}:qG t (some n) v=zc n t v:=rfl
theorem qls {v:AV}:qG t none v=t:=rfl
theorem qdr:qs h .nl=some (0,[]):=rfl
theorem qds {n:Nat} {f:Nat→List AV}:qs h (.sl n f)=some (n,(List.range n).flatMap f):=rfl
end
attribute [go_sem] getO_app0 getO_app setO_app0 setO_app verOf_mem verOf_emp tyOf_mem site_app site_app0 site_0_mem site_0_emp site_s cellsOf_app cellsOf_app0 cellsOf_0 cellsOf_s liveS_app liveS_app0 liveS_0_mem liveS_0_emp liveS_s tyOk_mem tyOk_emp b_add0 appO_mem appO_emp
attribute [go_sem] qur qq3 qxW qq6 qq5 quq qq4 qxV qnk qun qlt qls qdr qds
attribute [go_sem] List.set_cons_zero List.set_cons_succ Option.isSome_some List.take_zero List.take_succ_cons List.take_nil List.drop_nil List.nil_append List.cons_append List.append_nil Nat.reduceAdd Nat.reduceMul Nat.reduceSub Nat.reduceLeDiff Nat.reduceEqDiff Nat.zero_add
end AF
end
section
namespace AF
open Go
theorem qq {P:Program} {f:Nat} {p:Bool} {vs:List AV} {d:Option Nat} {nx:Nx} {t:List AV} {h:List AObj} {r:AV} (hc:qm P f (strips vs) h r h) (hf:flags vs) (hn:nx (qG t d r) h):qgS P f p vs d nx t h:=
 ⟨hf,r,h,hc,fun _=>rfl,hn⟩
theorem zq {P:Program} {f:Nat} {vs:List AV} {d:Option Nat} {nx:Nx} {t:List AV} {h h':List AObj} {r:AV} (hc:qm P f (strips vs) h r h') (hf:flags vs) (hn:nx (qG t d r) h'):qgS P f false vs d nx t h:=
 ⟨hf,r,h',hc,by simp,hn⟩
theorem qr {P:Program} {f:Nat} {p g:Bool} {vs:List AV} {d:Option Nat} {nx:Nx} {t:List AV} {h:List AObj} {r:AV} (hc:g=true→flags vs∧qm P f (strips vs) h r h) (hn:nx (qG t d (.gd g r)) h):qjq P f p g vs d nx t h:=
 ⟨r,h,fun e=>⟨(hc e).1,(hc e).2,fun _=>rfl⟩,fun _=>rfl,hn⟩
theorem qyR {t:List AV} {h:List AObj}:jD t h []:=trivial
theorem qyS {t:List AV} {h:List AObj} {n:Nat} {l:List RV} (hl:jD t h l):jD t h (.tmp n::l):=⟨trivial,hl⟩
theorem qrr:flags []:=trivial
theorem qrq {a:AV} {l:List AV} (h:a.flag=true) (t:flags l):flags (a::l):=⟨h,t⟩
theorem qo {P:Program} {f:Nat} {p:Bool} {vs:List AV} {d:Option Nat} {nx:Nx} {t:List AV} {h:List AObj} (r:AV) (hn:nx (qG t d (.gd false r)) h):qjq P f p false vs d nx t h:=by
 refine ⟨r,h,?_,fun _=>rfl,hn⟩
 intro e;cases e
theorem qa {a b:Bool} (h:a=b):VLe (.bool a) (.bool b):=h▸VLe.refl _
theorem qe {a b:List UInt8} (h:a=b):VLe (.str a) (.str b):=h▸VLe.refl _
theorem qtu {n m:Nat} {f g:Nat→List AV} (e:n=m) (h: ∀i,i<m→f i=g i):VLe (.sl n f) (.sl m g):=by
 subst e
 intro w σ x hx
 have h1:=zf rfl hx
 cases h1 with
 |nilsl=>exact .imm .nilsl
 |sl sz b off cap vals hn hm hb hlt hsz hc h1 hv=>
  refine .imm (.sl sz b off cap vals hn hm hb hlt (fun i hi=> ?_) hc h1 (fun i j c hi hj=> ?_))
  ·rw [←h i hi];exact hsz i hi
  ·rw [←h i hi]at hj;exact hv i j c hi hj
theorem jn {f:Nat→List AV}:VLe .nl (.sl 0 f):=by
 intro w σ x hx
 have h1:=zf rfl hx
 cases h1 with
 |nl=>exact .imm .nilsl
theorem qT {l m:List AV} (h:kw l m):VLe (.tup l) (.tup m):=by
 intro w σ x hx
 obtain ⟨vs,rfl,hl,hv⟩:=qeE hx
 refine .tup (by rw [hl,h.length]) (fun i c x hc hx=> ?_)
 obtain ⟨a,ha,hle⟩:=h.get i c hc
 exact hle w σ x (hv i a x ha hx)
theorem qqm {a b:AV} {l m:List AV} (h:VLe a b) (h':kw l m):kw (a::l) (b::m):=⟨h,h'⟩
def qpJ (v:AV) (h:List AObj) (m:Option Nat):Prop:=
 match v with
 | .op k ver off=>okL h (.load m) [.op k ver off]
 |_=>False
theorem qhE {n:Nat} {m:Option Nat} {l:List RV} {t:List AV} {h:List AObj}:jD t h (.cell n m::l)=(qpJ (qK n t) h m∧jD t h l):=rfl
theorem qfm {n:Nat} {m:Option Nat} {l:List RV} {t:List AV} {h:List AObj}:zB t h (.cell n m::l)=valL h (.load m) [qK n t]::zB t h l:=rfl
theorem qju {k ver off:Nat} {h:List AObj} {m:Option Nat}:qpJ (.op k ver off) h m=okL h (.load m) [.op k ver off]:=rfl
attribute [go_sem] qhE qfm qju
theorem qeP:qX [] [] []=some true:=rfl
theorem qeO {ks:List AK} {k:IntKind} {a c:Int} {l m:List AV}:qX (.int::ks) (.int k a::l) (.int k c::m)=(qX ks l m).map (fun y=>decide (a=c)&&y):=by
 simp only [qX,jR,if_true]
 cases qX ks l m<;>rfl
theorem qdI {ks:List AK} {a c:Bool} {l m:List AV}:qX (.bool::ks) (.bool a::l) (.bool c::m)=(qX ks l m).map (fun y=>(a==c)&&y):=by
 simp only [qX,jR]
 cases qX ks l m<;>rfl
theorem qeQ {ks:List AK} {a c:List UInt8} {l m:List AV}:qX (.str::ks) (.str a::l) (.str c::m)=(qX ks l m).map (fun y=>decide (a=c)&&y):=by
 simp only [qX,jR]
 cases qX ks l m<;>rfl
attribute [go_sem] qeP qeO qdI qeQ Option.map_some Bool.true_bne Bool.false_bne Bool.bne_false
theorem qr9 {a b:Bool}:(a|| !a&&b)=(a||b):=by cases a<;>simp
theorem qxq {a:Bool}:(a==false)= !a:=by cases a<;>rfl
attribute [go_sem] qr9 qxq Bool.not_eq_true' Bool.or_eq_true decide_eq_false_iff_not Bool.or_eq_false_iff Bool.not_eq_false' Bool.and_eq_false_imp Bool.true_or Bool.or_true Bool.false_or Bool.true_and Bool.not_true Bool.not_false decide_not Bool.not_not
end AF
end
section
namespace AF
open Go
theorem qkf {rs:List RV} {h0 h' tl:List AObj} {K:AV→List AObj→Prop} {t:List AV} {r:AV} (hok:jD t (h'++tl) rs) (hl:h'.length=h0.length) (hlow: ∀o∈h',o∈h0∨qai h0.length o) (hK:K r h')
  (hv:VLe (frz (fun k=>decide (h0.length≤k)) (h'++tl) 8 (qfh (zB t (h'++tl) rs))) r):fnQ rs h0 K .ret t (h'++tl):=
 ⟨r,h',hK,hok,⟨tl,rfl⟩,hl,hlow,VOut.of 8 hv⟩
theorem qnN {rs:List RV} {h0 h' tl:List AObj} {K:AV→List AObj→Prop} {t:List AV} {r:AV} (hok:jD t (h'++tl) rs) (hl:h'.length=h0.length) (hlow: ∀o∈h',o∈h0∨qai h0.length o) (hK:K r h')
  (hv:VLe (frz (fun k=>decide (h0.length≤k)) (h'++tl) 8 (qfh (zB t (h'++tl) rs))) r):fnQ rs h0 K .normal t (h'++tl):=
 ⟨r,h',hK,hok,⟨tl,rfl⟩,hl,hlow,VOut.of 8 hv⟩
section
variable {k v : Nat} {h l : List AObj} {o o' : AObj} {ty : TypeId} {cs : List AV}
theorem jx (hk:k<h.length):qA k (h++l)=qA k h:=by unfold qA;rw [List.getElem?_append_left hk]
theorem qcm (hk:k<h.length):qE k (h++l) o=qE k h o++l:=by unfold qE;rw [List.set_append_left _ _ hk]
theorem qV:(qE k h o).length=h.length:=by unfold qE;simp
theorem jc (hk:k<h.length):qA k (qE k h o)=some o:=by unfold qA qE;rw [List.getElem?_set_self hk]
theorem qeu:qE k (qE k h o) o'=qE k h o':=by unfold qE;rw [List.set_set]
theorem zJ (e:qA k h=some (.mem v ty cs)):cellsOf h k v=some cs:=by unfold cellsOf;rw [e];simp
theorem zN (e:qA k h=some o):k<h.length:=by unfold qA at e;exact (List.getElem?_eq_some_iff.1 e).1
theorem qaJ {x:AObj} (hx:x∈qE k h o):x∈h∨x=o:=by
 unfold qE at hx
 exact List.mem_or_eq_of_mem_set hx
end
section
variable {k v w n : Nat} {h l : List AObj} {o o' : AObj} {ty : TypeId} {cs : List AV}
theorem qnU (hk:k<h.length):qA k (qE k h o++l)=some o:=by rw [jx (by rw [qV];exact hk),jc hk]
theorem qeV (hk:k<h.length):cellsOf (qE k h (.mem w ty cs)++l) k v=if w=v then some cs else none:=by unfold cellsOf;rw [qnU hk]
theorem getO_seta:qA (h.length+n) (qE k h o++l)=l[n]? :=by
 have:= @getO_app (qE k h o) l n
 rwa [qV]at this
theorem getO_seta0:qA h.length (qE k h o++l)=l[0]? :=by
 have:= @getO_app0 (qE k h o) l
 rwa [qV]at this
theorem setO_seta:qE (h.length+n) (qE k h o++l) o'=qE k h o++l.set n o':=by
 have:= @setO_app (qE k h o) l n o'
 rwa [qV]at this
theorem setO_seta0:qE h.length (qE k h o++l) o'=qE k h o++l.set 0 o':=by
 have:= @setO_app0 (qE k h o) l o'
 rwa [qV]at this
theorem cellsOf_seta:cellsOf (qE k h o++l) (h.length+n) v=cellsOf l n v:=by unfold cellsOf;rw [getO_seta];rfl
theorem cellsOf_seta0:cellsOf (qE k h o++l) h.length v=cellsOf l 0 v:=by unfold cellsOf;rw [getO_seta0];rfl
theorem site_seta:qH (qE k h o++l) (h.length+n)=qH l n:=by unfold qH;rw [getO_seta];rfl
theorem site_seta0:qH (qE k h o++l) h.length=qH l 0:=by unfold qH;rw [getO_seta0];rfl
theorem liveS_seta:ze (qE k h o++l) (h.length+n) v=ze l n v:=by unfold ze;rw [getO_seta];rfl
theorem liveS_seta0:ze (qE k h o++l) h.length v=ze l 0 v:=by unfold ze;rw [getO_seta0];rfl
end
attribute [go_sem] getO_seta getO_seta0 setO_seta setO_seta0 cellsOf_seta cellsOf_seta0 site_seta site_seta0 liveS_seta liveS_seta0
theorem qet {k:Nat} {h:List AObj} {o:AObj} (e:qA k h=some o):qE k h o=h:=by
 unfold qA at e;unfold qE
 obtain ⟨h1,h2⟩:=List.getElem?_eq_some_iff.1 e
 rw [←h2];exact List.set_getElem_self h1
theorem qoJ:qfh []= .tup []:=rfl
attribute [go_sem] qoJ
end AF
end
section
namespace AF
open Go
def qzT (c:Option (List AV)) (g:AV→AV) (off:Nat):AV:=
 match c with
 |some cs=> .ip ((cs.drop off).map g)
 |none=> .undef
def qex (o:Option AObj) (ver sz off len:Nat) (g:AV→AV):AV:=
 match o with
 |some (.mem ve _ cs)=>if ve=ver∧off+len*sz≤cs.length then .sl len (fun i=>((cs.drop (off+i*sz)).take sz).map g) else .undef
 |some (.emp ve)=>if ve=ver then .nl else .undef
 |_=> .undef
section
variable {fz : Nat → Bool} {h : List AObj} {n k ver sz off len : Nat}
theorem rei_op:rei fz h (n+1) (.op k ver off)=if fz k=true then qzT (cellsOf h k ver) (rei fz h n) off else .undef:=rfl
theorem rei_osl:rei fz h (n+1) (.osl k ver sz off len)=if fz k=true then qex (qA k h) ver sz off len (rei fz h n) else .undef:=rfl
theorem frz_op:frz fz h (n+1) (.op k ver off)=if fz k=true then rei fz h (n+1) (.op k ver off) else .op k ver off:=rfl
theorem frz_osl:frz fz h (n+1) (.osl k ver sz off len)=if fz k=true then rei fz h (n+1) (.osl k ver sz off len) else .osl k ver sz off len:=rfl
theorem ipOf_some {cs:List AV} {g:AV→AV}:qzT (some cs) g off= .ip ((cs.drop off).map g):=rfl
theorem slOf_mem {cs:List AV} {g:AV→AV} {ve:Nat} {ty:TypeId}:qex (some (.mem ve ty cs)) ver sz off len g=if ve=ver∧off+len*sz≤cs.length then .sl len (fun i=>((cs.drop (off+i*sz)).take sz).map g) else .undef:=rfl
theorem slOf_emp {g:AV→AV} {ve:Nat}:qex (some (.emp ve)) ver sz off len g=if ve=ver then .nl else .undef:=rfl
theorem rei_int {k:IntKind} {a:Int}:rei fz h (n+1) (.int k a)= .int k a:=rfl
theorem rei_bool {a:Bool}:rei fz h (n+1) (.bool a)= .bool a:=rfl
theorem rei_str {a:List UInt8}:rei fz h (n+1) (.str a)= .str a:=rfl
theorem rei_sl {m:Nat} {f:Nat→List AV}:rei fz h (n+1) (.sl m f)= .sl m f:=rfl
theorem rei_nl:rei fz h (n+1) .nl= .nl:=rfl
theorem rei_ip {cs:List AV}:rei fz h (n+1) (.ip cs)= .ip cs:=rfl
theorem rei_agg {cs:List AV}:rei fz h (n+1) (.agg cs)= .agg (cs.map (rei fz h n)):=rfl
theorem rei_tup {cs:List AV}:rei fz h (n+1) (.tup cs)= .tup (cs.map (rei fz h n)):=rfl
theorem rei_fn {f:Fn} {a b:List AV}:rei fz h (n+1) (.fn f a b)= .fn f (a.map (rei fz h n)) (b.map (rei fz h n)):=rfl
theorem rei_nilp:rei fz h (n+1) .nilp= .nilp:=rfl
theorem rei_undef:rei fz h (n+1) .undef= .undef:=rfl
end
attribute [go_sem] rei_op rei_osl frz_op frz_osl ipOf_some slOf_mem slOf_emp rei_int rei_bool rei_str rei_sl rei_nl rei_ip rei_agg rei_tup rei_fn rei_nilp rei_undef Nat.le_add_right Nat.le_refl Nat.mul_one Nat.one_mul
theorem qpB {P:Program} {b:Nat} {r:List RO} {K:Nx} {t:List AV} {h:List AObj} {d:Option Nat} {xs:List X} {j:Nat} {u:Bool}:opsA P b (⟨d,some (j,u),.callv,xs⟩::r) K t h=
  (qF (qK j t)=true∧(qx (qK j t) u=true→flags (evs t xs)∧qaW P (strips (evs t xs)) d (opsA P b r K) t h)∧(qx (qK j t) u=false→opsA P b r K (qG t d .undef) h)):=by simp only [opsA,stepO,zD,R.kd]
theorem qjr {P:Program} {k:Nat} {args:List AV} {d:Option Nat} {nx:Nx} {t:List AV} {h:List AObj}:qaW P (.yld k::args) d nx t h=((∃s ts L,qA k h=some (.lp s ts L))∧kx P k args h fun v h'=>nx (qG t d v) h'):=(rfl)
theorem qcz:valP (.un .not) [.undef]= .bool true:=rfl
theorem qlg {g q:Bool}:jm (.bool false) (.gd g .undef) (.bool q)= .bool q:=rfl
attribute [go_sem] qpB qjr qcz qlg true_implies false_implies Bool.false_eq_true Bool.true_eq_false
end AF
end
section
namespace AF
open Go
theorem qk3 {P:Program} {b:Nat} {l:List RO}: ∀ {nx nx':Nx} {t:List AV} {h:List AObj},(∀t h,nx t h→nx' t h)→opsA P b l nx t h→opsA P b l nx' t h:=by
 induction l with
 |nil=>intro nx nx' t h hn H;exact hn _ _ H
 |cons o l ih=>intro nx nx' t h hn H;exact jt (fun t h H=>ih hn H) H
theorem qdp {h0:List AObj} {t:List AV} {Q Q':Ex→Nx} {h:List AObj} (hq: ∀e t h,Q e t h→Q' e t h) (H:qdo h0 t Q h):qdo h0 t Q' h:=by
 obtain ⟨hh,s,ts,L,h1,h2,h3,h4⟩:=H
 refine ⟨hh,s,ts,L,h1,h2,h3,?_⟩
 cases s with
 |ready=>exact hq _ _ _ h4
 |ret=>exact hq _ _ _ h4
 |exit id=>exact hq _ _ _ h4
 |busy=>exact h4
theorem jS {P:Program} {b:Nat} {x:C}: ∀ {Q Q':Ex→Nx} {t:List AV} {h:List AObj},(∀e t h,Q e t h→Q' e t h)→qO P b x Q t h→qO P b x Q' t h:=by
 induction x with
 |skip=>intro Q Q' t h hq H;exact hq _ _ _ H
 |ops l=>intro Q Q' t h hq H;exact qk3 (fun t h H=>hq _ _ _ H) H
 |seq x y ihx ihy=>
  intro Q Q' t h hq H
  refine ihx (fun e t h H=> ?_) H
  cases e with
  |normal=>exact ihy hq H
  |exit id=>exact hq _ _ _ H
  |ret=>exact hq _ _ _ H
 |cond c x y ihx ihy=>
  intro Q Q' t h hq H
  simp only [qO,qe0]at*
  split at H
  ·exact ⟨fun e=>ihx hq (H.1 e),fun e=>ihy hq (H.2 e)⟩
  ·exact ⟨ihx hq H.1,ihy hq H.2⟩
  ·exact H.elim
 |block id x ih=>
  intro Q Q' t h hq H
  refine ih (fun e t h H=> ?_) H
  cases e with
  |normal=>exact hq _ _ _ H
  |ret=>exact hq _ _ _ H
  |exit i=>
   simp only [Ex.inBlock]at*
   split
   ·rename_i e;rw [if_pos e]at H;exact hq _ _ _ H
   ·rename_i e;rw [if_neg e]at H;exact hq _ _ _ H
 |loop x ih=>
  intro Q Q' t h hq H
  obtain ⟨I,h1,h2⟩:=H
  refine ⟨I,h1,fun n t' h' hi=>ih (fun e t h H=> ?_) (h2 n t' h' hi)⟩
  cases e with
  |normal=>exact H
  |exit id=>exact hq _ _ _ H
  |ret=>exact hq _ _ _ H
 |range u ps x y ihx ihy=>
  intro Q Q' t h hq H L hy
  have:=H L hy
  split at this
  ·exact this.le (kw.refl _) (fun v h' hr=>⟨v,VLe.refl _,qdp hq hr⟩)
  ·exact this
 |exit id=>intro Q Q' t h hq H;exact hq _ _ _ H
 |ret=>intro Q Q' t h hq H;exact hq _ _ _ H
 |wk=>
  intro Q Q' t h hq H
  obtain ⟨t',h',h1,h2⟩:=H
  exact ⟨t',h',h1,hq _ _ _ h2⟩
 |draw d=>
  intro Q Q' t h hq H
  obtain ⟨M,h1,h2⟩:=H
  exact ⟨M,h1,fun t' h' hm=>hq _ _ _ (h2 t' h' hm)⟩
 |bad=>intro Q Q' t h hq H;exact H
def qsH (o:Option AObj) (ver sz off n:Nat):Option (Nat×List AV):=
 match o with
 |some (.mem v _ cs)=>if v=ver∧off+n*sz≤cs.length then some (n,(cs.drop off).take (n*sz)) else none
 |some (.emp v)=>if v=ver∧n=0 then some (0,[]) else none
 |_=>none
theorem qcw {h:List AObj} {k ver sz off n:Nat}:qs h (.osl k ver sz off n)=qsH (qA k h) ver sz off n:=rfl
theorem qlI {v ver sz off n:Nat} {ty:TypeId} {cs:List AV}:qsH (some (.mem v ty cs)) ver sz off n=if v=ver∧off+n*sz≤cs.length then some (n,(cs.drop off).take (n*sz)) else none:=rfl
theorem qlH {v ver sz off n:Nat}:qsH (some (.emp v)) ver sz off n=if v=ver∧n=0 then some (0,[]) else none:=rfl
theorem qgL {k v z p n k' v' z' p' n':Nat}:qas (.osl k v z p n) (.osl k' v' z' p' n')=(k !=k'):=rfl
theorem qiu {k v z p n m:Nat} {f:Nat→List AV}:qas (.osl k v z p n) (.sl m f)=true:=rfl
theorem qit {k v z p n:Nat}:qas (.osl k v z p n) .nl=true:=rfl
attribute [go_sem] Int.toNat_zero decide_true decide_false beq_self_eq_true
attribute [go_sem] qcw qlI qlH qgL qiu qit
theorem qfK {g:List AObj} {z:Nat} {i:AV}:valL g (.idxA z) [.nl,i]= .undef:=rfl
theorem qcn {g:List AObj} {n:Option Nat}:valL g (.load n) [.undef]= .undef:=rfl
theorem qcx {g:List AObj} {n:Nat}:valL g (.fldA n) [.undef]= .undef:=rfl
theorem qgN {op:BinOp} {y:AV}:kW op .undef y= .undef:=rfl
theorem qlm {p g:Bool}:jm (.bool true) (.bool p) (.gd g .undef)= .bool p:=rfl
theorem qlh {p g:Bool}:jm (.bool false) (.gd g .undef) (.bool p)= .bool p:=rfl
attribute [go_sem] qfK qcn qcx qgN qlm qlh
theorem qqK {P:Program} {b:Nat} {u:X} {ps:List Nat} {x y:C} {Q:Ex→Nx} {t:List AV} {h:List AObj}:qO P b (.range u ps x y) Q t h=qek P (ev t u) ps (qO P b x) (qO P b y) Q t h:=(rfl)
attribute [go_sem] qqK
end AF
end
section
namespace AF
open Go
theorem HR.move {w:World} {σ:List OB} {h:List AObj} (H:HR w σ h) {k j vj:Nat} {ty:TypeId} {cs:List AV} (hj:qA j h=some (.mem vj ty cs)) (hk:qH h k=true) (hne:k≠j):
  ∃σ',HR w σ' (qE k (qE j h (.emp (vj+1))) (.mem (qv (qA k h)+1) ty cs))∧Ext w σ w σ'∧
   ∀sz off len x,VR w σ (.osl j vj sz off len) x→VR w σ' (.osl k (qv (qA k h)+1) sz off len) x:=by
 obtain ⟨ok,hok,hver⟩:=zu H hk
 have hjl:j<σ.length:=by rw [H.len];exact zN hj
 have hkl:k<σ.length:=(List.getElem?_eq_some_iff.1 hok).1
 obtain ⟨oj,hoj⟩: ∃oj,σ[j]? =some oj:=⟨_,List.getElem?_eq_getElem hjl⟩
 have hobj:=H.obj j _ oj hj hoj
 obtain ⟨m1,m2,b,arr,m3,m4,m5,m6,m7,m8⟩:=hobj
 rw [hver]
 let oj':OB:= { oj with blk:=none,ver:=oj.ver+1 }
 let ok':OB:= { oj with ver:=ok.ver+1 }
 let σ':=(σ.set j oj').set k ok'
 have gk:σ'[k]? =some ok':=by simp [σ',hkl]
 have gj:σ'[j]? =some oj':=by simp only [σ'];rw [List.getElem?_set_ne hne];simp [hjl]
 have go: ∀i,i≠k→i≠j→σ'[i]? =σ[i]? :=by
  intro i h1 h2
  simp only [σ']
  rw [List.getElem?_set_ne (fun e=>h1 e.symm),List.getElem?_set_ne (fun e=>h2 e.symm)]
 have blk: ∀(i:Nat) (o:OB) (b:Nat),σ'[i]? =some o→o.blk=some b→(i=k∧oj.blk=some b)∨(i≠k∧i≠j∧σ[i]? =some o):=by
  intro i o b h1 h2
  by_cases e1:i=k
  ·subst e1;rw [gk]at h1;cases h1;exact .inl ⟨rfl,h2⟩
  ·by_cases e2:i=j
   ·subst e2;rw [gj]at h1;cases h1;cases h2
   ·rw [go i e1 e2]at h1;exact .inr ⟨e1,e2,h1⟩
 have hext:Ext w σ w σ':=by
  refine ⟨rfl,rfl,rfl,Nat.le_refl _,fun _ _ _=>rfl,?_,?_,fun b r h=>⟨r,h⟩⟩
  ·rintro b ⟨i,o,h1,h2⟩
   rcases blk i o b h1 h2 with ⟨_,h3⟩|⟨_,_,h3⟩
   ·exact .inl ⟨j,oj,hoj,h3⟩
   ·exact .inl ⟨i,o,h3,h2⟩
  ·intro i o h1
   by_cases e1:i=k
   ·subst e1;rw [hok]at h1;cases h1;exact ⟨ok',gk,by simp [ok'],by simp [ok']⟩
   ·by_cases e2:i=j
    ·subst e2;rw [hoj]at h1;cases h1;exact ⟨oj',gj,by simp [oj'],by simp [oj']⟩
    ·exact ⟨o,by rw [go i e1 e2];exact h1,Nat.le_refl _,fun _=>rfl⟩
 refine ⟨σ',⟨by simp [σ',qE,H.len],?_,?_,?_⟩,hext,?_⟩
 ·intro i i' o o' b h1 h2 h3 h4
  rcases blk i o b h1 h3 with ⟨rfl,g1⟩|⟨g0,g1,g2⟩<;>rcases blk i' o' b h2 h4 with ⟨rfl,g1'⟩|⟨g0',g1',g2'⟩
  ·rfl
  ·exact absurd (H.inj i' j o' oj b g2' hoj h4 g1) g1'
  ·exact absurd (H.inj i j o oj b g2 hoj h3 g1') g1
  ·exact H.inj i i' o o' b g2 g2' h3 h4
 ·intro i o b h1 h2
  rcases blk i o b h1 h2 with ⟨_,g1⟩|⟨_,_,g2⟩
  ·exact H.lt j oj b hoj g1
  ·exact H.lt i o b g2 h2
 ·intro i a o ha ho
  by_cases e1:i=k
  ·subst e1
   have hkh:i<(qE j h (.emp (vj+1))).length:=by rw [qV,←H.len];exact hkl
   have:=jc (o:= .mem (ok.ver+1) ty cs) hkh
   unfold qA at this
   rw [this]at ha
   cases ha
   rw [gk]at ho
   cases ho
   exact ⟨rfl,m2,b,arr,m3,m4,m5,m6,m7,fun i c x hc hx=>(m8 i c x hc hx).ext hext⟩
  ·by_cases e2:i=j
   ·subst e2
    have hjh:i<h.length:=by rw [←H.len];exact hjl
    simp only [qE]at ha
    rw [List.getElem?_set_ne hne,List.getElem?_set_self hjh]at ha
    cases ha
    rw [gj]at ho
    cases ho
    exact ⟨by simp [oj',m1],rfl⟩
   ·rw [go i e1 e2]at ho
    simp only [qE]at ha
    rw [List.getElem?_set_ne (fun e=>e1 e.symm),List.getElem?_set_ne (fun e=>e2 e.symm)]at ha
    exact (H.obj i a o ha ho).ext hext (fun _ _=>rfl)
 ·intro sz off len x hx
  cases hx with
  |imm h=>cases h
  |osl o ho hs hle hh=>
   rw [hoj]at ho
   cases ho
   refine .osl ok' gk hs (Nat.le_refl _) (fun _=> ?_)
   exact hh m1
def fnM (rs:List RV) (h0:List AObj) (k:Nat) (K:AV→List AObj→Prop):Ex→Nx
 | .exit _,_,_=>False
 |_,t,hh=> ∃(j vj sz off len:Nat) (ty:TypeId) (cs:List AV) (tl:List AObj),jD t hh rs∧qfh (zB t hh rs)= .osl j vj sz off len∧hh=h0++tl∧h0.length≤j∧qA j hh=some (.mem vj ty cs)∧
   (∀c∈cs,zE h0.length c=true)∧qH h0 k=true∧K (.osl k (qv (qA k h0)+1) sz off len) (qE k h0 (.mem (qv (qA k h0)+1) ty cs))
theorem qgK {P:Program} {f nt ns:Nat} {rs:List RV} {c:C} (hf:qJ P f nt ns rs c) {args:List AV} {h:List AObj} {K:AV→List AObj→Prop} (k:Nat) (ha:args.length≤nt)
  (hw:qO P h.length c (fnM rs h k K) (args++List.replicate (nt-args.length) .undef) (h++List.replicate ns (.emp 0))):jg P f args h K:=by
 obtain ⟨fn,body,js,imp,wks,h1,h2,h3,rfl,rfl,h6,h7⟩:=hf
 refine ⟨by simp [okF,h1,h2,h3],fun w σ xs H hv=> ?_⟩
 refine callsIn_of_wp_marks h1 h2 trivial ?_
 obtain ⟨p1,p2⟩:=H.pushN js.length
 have hsr:SR w.heap.size w (σ++List.replicate js.length ⟨none,0,0,0⟩) (args++List.replicate (fn.ntmps-args.length) .undef) (h++List.replicate js.length (.emp 0))
   { tmps:=xs.toArray++Array.replicate (fn.ntmps-xs.toArray.size) Go.undef,defers:= [] }:=by
  refine ⟨p1,by simp [hv.1],fun i c x hc hx=> ?_,⟨[],rfl,.nil,Nat.le_refl _,by simp⟩⟩
  rw [List.getElem?_append]at hc
  simp only [Array.getElem?_append]at hx
  have hz:xs.toArray.size=args.length:=by simp [hv.1]
  split at hc
  ·rename_i hi
   rw [if_pos (by omega)]at hx
   exact (hv.2 i c x hc (by simpa using hx)).ext p2
  ·rw [List.getElem?_replicate]at hc
   split at hc
   ·cases hc;exact .imm .undef
   ·cases hc
 refine wpIn_mono (qf1 (b:=h.length) h7 w.heap.size none _ w _ _ _ _ hw (by simp) hsr) ?_
 rintro e a' w' ⟨z,σ',t',hh,he,g1,g2,g3⟩
 have key:(∃(j vj sz off len:Nat) (ty:TypeId) (cs:List AV) (tl:List AObj),jD t' hh rs∧qfh (zB t' hh rs)= .osl j vj sz off len∧hh=h++tl∧h.length≤j∧qA j hh=some (.mem vj ty cs)∧
   (∀c∈cs,zE h.length c=true)∧qH h k=true∧K (.osl k (qv (qA k h)+1) sz off len) (qE k h (.mem (qv (qA k h)+1) ty cs)))→
   LeavesInM Fence.wide 0 P fn a'.tmps (fun e w'=> ∃v σ' r h',K r h'∧e= .returned v∧HR w' σ' h'∧VR w' σ' r v∧Ext w σ w' σ') a'.defers .returning w':=by
  rintro ⟨j,vj,sz,off,len,ty,cs,tl,k1,k2,rfl,k3,k4,k5,k6,hK⟩
  obtain ⟨ms,d1,d2,d3,d4⟩:=g1.df
  rw [d1]
  refine qbn (N:=w.heap.size) ms w' d2 (fun r hr=>⟨(d4 r hr).1,(d4 r hr).2.2.2⟩) (fun w1 e1=> ?_)
  have H1:=g1.hr.dt e1
  obtain ⟨v,v1,v2⟩:=qcR (P:=P) H1 g1.sz (fun i c x hc hx=>(g1.tm i c x hc hx).dt e1) h6 k1
  rw [k2]at v2
  have ee:Ext w σ w1 σ':=(p2.trans g2).dt e1
  have hkl:k<h.length:=by
   have:=k6
   unfold qH at this
   split at this
   ·rename_i hx;exact zN hx
   ·rename_i hx;exact zN hx
   ·rename_i hx;exact zN hx
   ·cases this
  have hkt:qH (h++tl) k=true:=by unfold qH at k6 ⊢;rw [jx hkl];exact k6
  obtain ⟨σ2,q1,q2,q3⟩:=H1.move k4 hkt (by omega)
  have q3':=q3 _ _ _ _ v2
  rw [jx hkl]at q1 q3'
  have eh:qE k (qE j (h++tl) (.emp (vj+1))) (.mem (qv (qA k h)+1) ty cs)=qE k h (.mem (qv (qA k h)+1) ty cs)++qE (j-h.length) tl (.emp (vj+1)):=by
   unfold qE
   rw [List.set_append_right _ _ k3,List.set_append_left _ _ hkl]
  rw [eh]at q1
  obtain ⟨m1,m2⟩:=HR.trunc H (ee.trans q2) q1 qV (fun o ho=>by
   rcases qaJ ho with h1|rfl
   ·exact .inl h1
   ·exact .inr k5)
  refine ⟨v,v1,v,_,_,_,hK,rfl,m1,?_,m2⟩
  cases q3' with
  |imm h=>cases h
  |osl o ho hs hle hh=>
   refine .osl o ?_ hs hle hh
   rw [List.getElem?_take,if_pos hkl]
   exact ho
 cases e with
 |normal=>cases he;exact key g3
 |ret=>cases he;exact key g3
 |exit id=>cases he;exact g3.elim
 |goto l=>cases he
 |panic c=>cases he
 |outgrown=>cases he
theorem qqo {P:Program} {f nt ns:Nat} {rs:List RV} {c:C} (hf:qJ P f nt ns rs c) {args:List AV} {h:List AObj} {r:AV} {h':List AObj} (k:Nat) (ha:args.length≤nt)
  (hw:qO P h.length c (fnM rs h k fun r1 h1=>r1=r∧h1=h') (args++List.replicate (nt-args.length) .undef) (h++List.replicate ns (.emp 0))):qm P f args h r h':=(qgK hf k ha hw).calls
end AF
end
section
namespace AF
open Go
section
variable {P : Program} {b : Nat} {r : List RO} {K : Nx} {t : List AV} {h : List AObj} {d : Option Nat} {xs : List X} {j : Nat} {u : Bool}
theorem wg_bslc {i z n:Nat} {ty:TypeId} {zs:List AV} {ps:List (Nat×Nat)}:opsA P b (⟨d,some (j,u),.bslc i z n ty zs ps,xs⟩::r) K t h=
  (qF (qK j t)=true∧(qx (qK j t) u=true→flags (evs t xs)∧effE b h (.bslc i z n ty zs ps) (strips (evs t xs)) t d (opsA P b r K))∧(qx (qK j t) u=false→opsA P b r K (qG t d .undef) h)):=by simp only [opsA,stepO,zD,R.kd]
theorem wg_box {i:Nat} {ty:TypeId}:opsA P b (⟨d,some (j,u),.box i ty,xs⟩::r) K t h=
  (qF (qK j t)=true∧(qx (qK j t) u=true→flags (evs t xs)∧effE b h (.box i ty) (strips (evs t xs)) t d (opsA P b r K))∧(qx (qK j t) u=false→opsA P b r K (qG t d .undef) h)):=by simp only [opsA,stepO,zD,R.kd]
theorem wg_app {i z m:Nat} {ty:TypeId}:opsA P b (⟨d,some (j,u),.app i z ty m,xs⟩::r) K t h=
  (qF (qK j t)=true∧(qx (qK j t) u=true→flags (evs t xs)∧effE b h (.app i z ty m) (strips (evs t xs)) t d (opsA P b r K))∧(qx (qK j t) u=false→opsA P b r K (qG t d .undef) h)):=by simp only [opsA,stepO,zD,R.kd]
end
attribute [go_sem] wg_bslc wg_box wg_app
end AF
end
section
namespace AF
open Go
def qeT (o:Option AObj) (ver:Nat):Option (List AV):=
 match o with
 |some (.mem v _ cs)=>if v=ver then some cs else none
 |_=>none
def qge (o:Option AObj) (ver:Nat):Bool:=
 match o with
 |some (.mem v _ _)=>v==ver
 |some (.emp v)=>v==ver
 |_=>false
section
variable {h l : List AObj} {i j k ver v : Nat} {o o' o'' : AObj} {ty : TypeId} {cs : List AV}
theorem qeU:cellsOf h k ver=qeT (qA k h) ver:=rfl
theorem qea:ze h k ver=qge (qA k h) ver:=rfl
theorem qb2:qeT (some (.mem v ty cs)) ver=if v=ver then some cs else none:=rfl
theorem qhn:qge (some (.mem v ty cs)) ver=(v==ver):=rfl
theorem qbk (hne:k≠j):qA k (qE j h o)=qA k h:=by unfold qA qE;rw [List.getElem?_set_ne (fun e=>hne e.symm)]
theorem qrz (hk:k<h.length):qA k (qE j h o++l)=qA k (qE j h o):=jx (by rw [qV];exact hk)
theorem qrA (hk:k<h.length):qA k (qE i (qE j h o) o'++l)=qA k (qE i (qE j h o) o'):=jx (by rw [qV,qV];exact hk)
theorem qsz (hk:k<h.length):qE k (qE j h o++l) o'=qE k (qE j h o) o'++l:=qcm (by rw [qV];exact hk)
theorem qsA (hk:k<h.length):qE k (qE i (qE j h o) o'++l) o''=qE k (qE i (qE j h o) o') o''++l:=qcm (by rw [qV,qV];exact hk)
end
end AF
end
section
namespace AF
open Go
theorem qaI {α β:Type} {f:α→Option β}: ∀ {l:List α} {ys:List β},l.mapM f=some ys→ys.length=l.length∧ ∀(i:Nat) x y,l[i]? =some x→ys[i]? =some y→f x=some y:=by
 intro l
 induction l with
 |nil=>intro ys h;simp at h;subst h;simp
 |cons a l ih=>
  intro ys h
  rw [List.mapM_cons]at h
  cases ha:f a with
  |none=>simp [ha]at h
  |some b=>
   cases hl:l.mapM f with
   |none=>simp [ha,hl]at h
   |some zs=>
    simp [ha,hl]at h
    subst h
    obtain ⟨h1,h2⟩:=ih hl
    refine ⟨by simp [h1],fun i x y hx hy=> ?_⟩
    cases i with
    |zero=>simp at hx hy;subst hx hy;exact ha
    |succ i=>exact h2 i x y (by simpa using hx) (by simpa using hy)
inductive FK where
 |bool
 |int (k:IntKind)
 |str
 deriving DecidableEq
section
variable {H : Type} {enc : TypeId × Value → H} {P : Program} {w : World} {sp : Nat → Bool} {held : Bool} {ow : Nat → Prop}
end
theorem HR.nil (w:World):HR w [] []:=⟨rfl,by simp,by simp,by simp⟩
theorem qsc (b:Nat): ¬own [] b:=fun ⟨k,o,h,_⟩=>by simp at h
theorem VRs.nil' {w:World} {σ:List OB}:VRs w σ [] []:=⟨rfl,by simp⟩
theorem VRs.cons' {w:World} {σ:List OB} {a:AV} {v:Value} {as:List AV} {vs:List Value} (h:VR w σ a v) (h':VRs w σ as vs):VRs w σ (a::as) (v::vs):=by
 refine ⟨by simp [h'.1],fun i c x hc hx=> ?_⟩
 cases i with
 |zero=>simp at hc hx;subst hc hx;exact h
 |succ i=>exact h'.2 i c x (by simpa using hc) (by simpa using hx)
end AF
end
section
namespace AF
open Go Go.ChangeShapes Go.WideShapes Go.ChangeAt Go.RowKit
section
variable {H : Type} {enc : TypeId × Value → H} {P : Program} {W W' : World}
theorem qeC (hl:laidOutB P=true) (hb:Below W.heap.size W W'): ∀ {ts:List TypeId} {vs:List Value} {ds:List (DataW H)} {ps:List MemPlace},(∀t∈ts,P.readableRec t=true∧t<P.types.size)→
  (∀x∈ps,x.block<W.heap.size)→DataW.TrodAll enc P W 0 (fun _=>true) true ts vs ds ps→DataW.TrodAll enc P W' 0 (fun b=>decide (b<W.heap.size)) true ts vs ds ps:=by
 intro ts
 induction ts with
 |nil=>
  intro vs ds ps _ _ h
  match vs,ds,h with
  | [],[],h=>exact h
 |cons t ts ih=>
  intro vs ds ps ht hp h
  match vs,ds,h with
  |v::vs,d::ds,⟨p,q,h1,h2,e⟩=>
   subst e
   refine ⟨p,q,?_,?_,rfl⟩
   ·exact Below.trod hl (ht t (by simp)).1 (ht t (by simp)).2 h1 hb (fun x hx=>hp x (by simp [hx]))
   ·exact ih (fun u hu=>ht u (by simp [hu])) (fun x hx=>hp x (by simp [hx])) h2
theorem qn5 {f:Func} {s:ChangeSpec} {args:Array Value} {ds:List (DataW H)} {before:List MemPlace} {tb:TypeId} (hl:laidOutB P=true) (hv:s.vars= []) (hfn:s.fn H ds= { results:= [.lit (.bool true)],args:=ds })
  (hrt:f.resultTypes= #[tb]) (htb:P.underlying tb=some .bool) (hro: ∀t∈f.params.toList,P.readableRec t=true∧t<P.types.size)
  (hW:DataW.Whole enc P f.params.toList s.vars false W args.toList ds [] before) (hA:DataW.TrodAll enc P W 0 (fun _=>true) true f.params.toList args.toList ds before) (hb:Below W.heap.size W W'):
  s.post enc P f false true false false W args (.bool true) W':=by
 have hlt: ∀x∈before,x.block<W.heap.size:=fun x hx=>hW.lt x hx
 refine ⟨ds,[],before,[],before,[],hW,?_,?_,?_,?_,fun h=>by cases h⟩
 ·rw [List.append_nil,hfn,hrt]
  exact ⟨[],[],shut_bool htb true,rfl,rfl⟩
 ·rw [List.append_nil,hfn]
  exact qeC hl hb hro hlt hA
 ·rw [List.append_nil,hfn,hv]
  rfl
 ·exact World.keptBut_mono (fun x hx=>⟨hx,.inr (.inl hx)⟩) (hb.frame (· ∈before))
end
end AF
end
section
namespace AF
open Go
def qpf (P:Program):Nat→List Field→Option Nat
 |n,[]=>some n
 |n,f::r=>if f.offset=n then qpf P (n+P.cellsOf f.type) r else none
def qbp (P:Program):Nat→TypeId→Bool
 |0,_=>false
 |d+1,t=>match P.underlying t with
  |some .bool=>decide (P.cellsOf t=1)
  |some (.int _)=>decide (P.cellsOf t=1)
  |some .string=>decide (P.cellsOf t=1)
  |some (.slice e)=>decide (P.cellsOf t=1)&&(decide (0<P.cellsOf e)&&qbp P d e)
  |some (.struct fs)=>decide (qpf P 0 fs.toList=some (P.cellsOf t))&&fs.toList.all fun f=>qbp P d f.type
  |_=>false
def zK (P:Program):Nat→TypeId→List AV→Prop
 |0,_,_=>False
 |d+1,t,as=>match P.underlying t with
  |some .bool=> ∃b,as= [.bool b]
  |some (.int k)=> ∃n,as= [.int k n]∧(Lit.int k n).wf=true
  |some .string=> ∃s:List UInt8,as= [.str s]∧s.length≤maxLen
  |some (.slice e)=> ∃(n:Nat) (f:Nat→List AV),as= [.sl n f]∧n≤maxLen∧ ∀i,i<n→zK P d e (f i)
  |some (.struct fs)=>as.length=P.cellsOf t∧ ∀f∈fs.toList,zK P d f.type ((as.drop f.offset).take (P.cellsOf f.type))
  |_=>False
section
variable {H : Type} {enc : TypeId × Value → H} {P : Program} {w : World} {held : Bool} {ow : Nat → Prop}
structure kA (w:World) (ow:Nat→Prop) (as:List AV) (cs:List Value):Prop where
 len:cs.length=as.length
 one: ∀(i:Nat) v,cs[i]? =some v→v.oneCell'=true
 vi: ∀(i:Nat) c v,as[i]? =some c→cs[i]? =some v→VI w ow c v
theorem kA.single {a:AV} {v:Value} (h1:v.oneCell'=true) (h2:VI w ow a v):kA w ow [a] [v]:=by
 refine ⟨rfl,fun i x hx=> ?_,fun i c x hc hx=> ?_⟩
 ·cases i<;>simp at hx;subst hx;exact h1
 ·cases i<;>simp at hx hc;subst hx hc;exact h2
theorem kA.append {as bs:List AV} {cs ds:List Value} (h:kA w ow as cs) (h':kA w ow bs ds):kA w ow (as++bs) (cs++ds):=by
 have hl:=h.len
 refine ⟨by simp [hl,h'.len],fun i v hv=> ?_,fun i c v hc hv=> ?_⟩
 ·rw [List.getElem?_append]at hv
  split at hv
  ·exact h.one i v hv
  ·exact h'.one _ v hv
 ·rw [List.getElem?_append]at hc hv
  split at hv
  ·rename_i hi
   rw [if_pos (by omega)]at hc
   exact h.vi i c v hc hv
  ·rename_i hi
   rw [if_neg (by omega),←hl]at hc
   exact h'.vi _ c v hc hv
theorem qe4 {d fuel:Nat} (ih: ∀(t:TypeId) (cs:List Value) (dd:DataW H) (ps:List MemPlace),qbp P d t=true→DataW.trod enc P w 0 (fun _=>true) held fuel t cs=some (dd,ps)→ ∃as,zK P d t as∧as.length=P.cellsOf t∧kA w ow as cs) {cs:List Value}:
  ∀(fs:List Field) (n m:Nat) (xs:List (DataW H×List MemPlace)),qpf P n fs=some m→(∀f∈fs,qbp P d f.type=true)→m≤cs.length→
   fs.mapM (fun f=>DataW.trod enc P w 0 (fun _=>true) held fuel f.type ((cs.drop f.offset).take (P.cellsOf f.type)))=some xs→
   n≤m∧ ∃as,(∀f∈fs,n≤f.offset∧zK P d f.type ((as.drop (f.offset-n)).take (P.cellsOf f.type)))∧as.length=m-n∧kA w ow as ((cs.drop n).take (m-n)):=by
 intro fs
 induction fs with
 |nil=>
  intro n m xs ht _ hm _
  cases ht
  exact ⟨Nat.le_refl _,[],by simp,by simp,⟨by simp,by simp,by simp⟩⟩
 |cons f r ihr=>
  intro n m xs ht hk hm hx
  simp only [qpf]at ht
  split at ht
  ·rename_i hoff
   rw [List.mapM_cons]at hx
   cases ha:DataW.trod enc P w 0 (fun _=>true) held fuel f.type ((cs.drop f.offset).take (P.cellsOf f.type))with
   |none=>simp [ha]at hx
   |some y=>
    cases hl:r.mapM (fun f=>DataW.trod enc P w 0 (fun _=>true) held fuel f.type ((cs.drop f.offset).take (P.cellsOf f.type)))with
    |none=>simp [ha,hl]at hx
    |some zs=>
     obtain ⟨g0,as1,g1,g2,g3⟩:=ihr (n+P.cellsOf f.type) m zs ht (fun g hg=>hk g (by simp [hg])) hm hl
     obtain ⟨as0,k1,k2,k3⟩:=ih f.type _ y.1 y.2 (hk f (by simp)) (by rw [ha])
     rw [hoff]at k3
     refine ⟨by omega,as0++as1,fun g hg=> ?_,by rw [List.length_append,k2,g2];omega,?_⟩
     ·rcases List.mem_cons.1 hg with rfl|hg
      ·refine ⟨by omega,?_⟩
       rw [hoff,Nat.sub_self,List.drop_zero,List.take_append_of_le_length (by omega),List.take_of_length_le (by omega)]
       exact k1
      ·obtain ⟨q1,q2⟩:=g1 g hg
       refine ⟨by omega,?_⟩
       rw [List.drop_append,List.drop_of_length_le (by omega),List.nil_append,show g.offset-n-as0.length=g.offset-(n+P.cellsOf f.type) by omega]
       exact q2
     ·have e:(cs.drop n).take (m-n)=(cs.drop n).take (P.cellsOf f.type)++(cs.drop (n+P.cellsOf f.type)).take (m-(n+P.cellsOf f.type)):=by
       rw [show m-n=P.cellsOf f.type+(m-(n+P.cellsOf f.type)) by omega,List.take_add,List.drop_drop]
      rw [e]
      exact k3.append g3
  ·cases ht
theorem qlT {a:Addr} {v:Value} (h:w.cell? a=some v): ∃b off,a=⟨b,off,none⟩∧b<w.heap.size:=by
 obtain ⟨b,off,spot⟩:=a
 unfold World.cell? at h
 split at h
 ·rename_i c e f hb
  split at h
  ·cases h
  ·rename_i hs
   cases spot with
   |some _=>simp at hs
   |none=>exact ⟨b,off,rfl,(Array.getElem?_eq_some_iff.1 hb).1⟩
 ·cases h
theorem qjO (how: ∀b,¬ow b): ∀(d fuel:Nat) (t:TypeId) (cs:List Value) (dd:DataW H) (ps:List MemPlace),qbp P d t=true→DataW.trod enc P w 0 (fun _=>true) held fuel t cs=some (dd,ps)→
  ∃as,zK P d t as∧as.length=P.cellsOf t∧kA w ow as cs:=by
 intro d
 induction d with
 |zero=>intro fuel t cs dd ps hk;cases hk
 |succ d ih=>
  intro fuel t cs dd ps hk h
  unfold qbp at hk
  unfold zK
  split at hk
  ·rename_i ht
   have hc:=of_decide_eq_true hk
   obtain ⟨b,rfl,_⟩:=DataW.trod_bool ht h
   exact ⟨[.bool b],⟨b,rfl⟩,hc.symm,kA.single rfl .bool⟩
  ·rename_i k ht
   have hc:=of_decide_eq_true hk
   obtain ⟨n,rfl,_,hw⟩:=DataW.trod_int ht h
   exact ⟨[.int k n],⟨n,rfl,hw⟩,hc.symm,kA.single rfl .int⟩
  ·rename_i ht
   have hc:=of_decide_eq_true hk
   obtain ⟨s,rfl,_,hw⟩:=DataW.trod_string ht h
   have hsz:s.data.toList.length≤maxLen:=by rw [Array.length_toList];exact hw
   exact ⟨[.str s.data.toList],⟨_,rfl,hsz⟩,hc.symm,kA.single rfl (by have:= @VI.str w ow s.data.toList;rw [Array.toArray_toList]at this;exact this)⟩
  ·rename_i e ht
   simp only [Bool.and_eq_true,decide_eq_true_eq]at hk
   obtain ⟨hc,hpos,hk⟩:=hk
   cases fuel with
   |zero=>simp [DataW.trod]at h
   |succ fuel=>
    have hcs:(cs= [.slice none 0 0])∨ ∃a len cap,cs= [.slice (some a) len cap]:=by
     unfold DataW.trod at h
     rw [ht]at h
     split at h<;>first|(rename_i g _;cases g;done)|skip
     all_goals first|(rename_i g;cases g;done)|skip
     all_goals first|exact .inl rfl|exact .inr ⟨_,_,_,rfl⟩|(cases h;done)
    rcases hcs with rfl|⟨a,len,cap,rfl⟩
    ·exact ⟨[.sl 0 fun _=> []],⟨0,fun _=> [],rfl,Nat.zero_le _,fun i hi=>absurd hi (Nat.not_lt_zero _)⟩,hc.symm,kA.single rfl .nilsl⟩
    ·simp only [DataW.trod,ht]at h
     split at h
     ·rename_i hcc
      obtain ⟨_,c1,c2⟩:=hcc
      rw [Option.bind_eq_some_iff]at h
      obtain ⟨elems,hm,hrest⟩:=h
      rw [Option.map_eq_some_iff]at hrest
      obtain ⟨rest,hrest,_⟩:=hrest
      try simp only [if_true]at hrest
      obtain ⟨m1,m2⟩:=qaI hm
      obtain ⟨r1,r2⟩:=qaI hrest
      simp only [List.length_range]at m1 r1
      have all: ∀i,i<cap→ ∃x,((w.cells? 0 (a.add (i*P.cellsOf e)) (P.cellsOf e)).bind (DataW.trod enc P w 0 (fun _=>true) held fuel e))=some x:=by
       intro i hi
       by_cases hl:i<len
       ·exact ⟨_,m2 i i _ (by simp [hl]) (List.getElem?_eq_getElem (by omega))⟩
       ·have:=r2 (i-len) (i-len) _ (by rw [List.getElem?_range (by omega)]) (List.getElem?_eq_getElem (by omega))
        rw [show len+(i-len)=i by omega]at this
        exact ⟨_,this⟩
      by_cases hcap:cap=0
      ·subst hcap
       have:len=0:=by omega
       subst this
       exact ⟨[.sl 0 fun _=> []],⟨0,fun _=> [],rfl,Nat.zero_le _,fun i hi=>absurd hi (Nat.not_lt_zero _)⟩,hc.symm,kA.single rfl .nilsl⟩
      ·obtain ⟨x0,h0⟩:=all 0 (by omega)
       rw [Option.bind_eq_some_iff]at h0
       obtain ⟨cs0,h0,_⟩:=h0
       rw [Nat.zero_mul]at h0
       have hadd0:a.add 0=a:=by simp [Addr.add]
       rw [hadd0]at h0
       unfold World.cells? at h0
       rw [if_pos (Nat.zero_le _)]at h0
       obtain ⟨n1,n2⟩:=qaI h0
       simp only [List.length_range]at n1
       have hcell:=n2 0 0 _ (by simp [hpos]) (List.getElem?_eq_getElem (show 0<cs0.length by omega))
       rw [hadd0]at hcell
       obtain ⟨b,off,rfl,hlt⟩:=qlT hcell
       have hadd: ∀n,(⟨b,off,none⟩:Addr).add n=⟨b,off+n,none⟩:=by
        intro n;unfold Addr.add;split
        ·rename_i h;subst h;rfl
        ·rfl
       have hadd2: ∀n m,(⟨b,off+n,none⟩:Addr).add m=⟨b,off+n+m,none⟩:=by
        intro n m;unfold Addr.add;split
        ·rename_i h;subst h;rfl
        ·rfl
       have key: ∀i,i<len→ ∃(as:List AV) (cs:List Value),zK P d e as∧as.length=P.cellsOf e∧kA w ow as cs∧(∀(j:Nat) v,cs[j]? =some v→w.cell? ⟨b,off+i*P.cellsOf e+j,none⟩=some v):=by
        intro i hi
        obtain ⟨x,hx⟩:=all i (by omega)
        rw [Option.bind_eq_some_iff]at hx
        obtain ⟨cs,h3,h4⟩:=hx
        obtain ⟨as,f1,f2,f3⟩:=ih fuel e cs x.1 x.2 hk h4
        rw [hadd]at h3
        unfold World.cells? at h3
        rw [if_pos (Nat.zero_le _)]at h3
        obtain ⟨n1,n2⟩:=qaI h3
        simp only [List.length_range]at n1
        refine ⟨as,cs,f1,f2,f3,fun j v hj=> ?_⟩
        have hjl:j<P.cellsOf e:=by have:=(List.getElem?_eq_some_iff.1 hj).1;omega
        have:=n2 j j v (by simp [hjl]) hj
        rw [hadd2]at this
        exact this
       have ex: ∃g:Nat→List AV×List Value,∀i,i<len→zK P d e (g i).1∧(g i).1.length=P.cellsOf e∧kA w ow (g i).1 (g i).2∧(∀(j:Nat) v,(g i).2[j]? =some v→w.cell? ⟨b,off+i*P.cellsOf e+j,none⟩=some v):=by
        refine ⟨fun i=>if hi:i<len then ((key i hi).choose,(key i hi).choose_spec.choose) else ([],[]),fun i hi=> ?_⟩
        simp only [dif_pos hi]
        exact (key i hi).choose_spec.choose_spec
       obtain ⟨g,hg⟩:=ex
       refine ⟨[.sl len fun i=>(g i).1],⟨len,fun i=>(g i).1,rfl,Nat.le_trans c1 c2,fun i hi=>(hg i hi).1⟩,hc.symm,kA.single rfl (.sl (P.cellsOf e) b off cap (fun i j=>(g i).2.getD j Go.undef) c1 c2 (fun _=>how b) hlt (fun i hi=>(hg i hi).2.1) (fun i j hi hj=> ?_) (fun i j hi hj=> ?_) (fun i j c hi hc=> ?_))⟩
       ·obtain ⟨_,q2,q3,q4⟩:=hg i hi
        have hl:=q3.len
        have e:(g i).2[j]? =some (g i).2[j]:=List.getElem?_eq_getElem (by omega)
        rw [q4 j _ e,List.getD_eq_getElem?_getD,e];rfl
       ·obtain ⟨_,q2,q3,q4⟩:=hg i hi
        have hl:=q3.len
        have e:(g i).2[j]? =some (g i).2[j]:=List.getElem?_eq_getElem (by omega)
        rw [List.getD_eq_getElem?_getD,e];exact q3.one j _ e
       ·obtain ⟨_,q2,q3,q4⟩:=hg i hi
        have hl:=q3.len
        have hj:=(List.getElem?_eq_some_iff.1 hc).1
        have e:(g i).2[j]? =some (g i).2[j]:=List.getElem?_eq_getElem (by omega)
        rw [List.getD_eq_getElem?_getD,e];exact q3.vi j c _ hc e
     ·cases h
  ·rename_i fs ht
   simp only [Bool.and_eq_true,decide_eq_true_eq,List.all_eq_true]at hk
   obtain ⟨htile,hk⟩:=hk
   cases fuel with
   |zero=>simp [DataW.trod]at h
   |succ fuel=>
    simp only [DataW.trod,ht]at h
    split at h
    ·rename_i hcl
     rw [Option.map_eq_some_iff]at h
     obtain ⟨xs,hm,_⟩:=h
     obtain ⟨_,as,g1,g2,g3⟩:=qe4 (fun t cs dd ps=>ih fuel t cs dd ps) fs.toList 0 (P.cellsOf t) xs htile hk (by omega) hm
     rw [Nat.sub_zero]at g2 g3
     rw [List.drop_zero,List.take_of_length_le (by omega)]at g3
     exact ⟨as,⟨g2,fun f hf=>by have:=(g1 f hf).2;rwa [Nat.sub_zero]at this⟩,g2,g3⟩
    ·cases h
  ·cases hk
theorem qoE (how: ∀b,¬ow b) {d:Nat} {t:TypeId} {cs:Array Value} {dd:DataW H} {ps:List MemPlace} (hk:qbp P d t=true) (h:DataW.Trod enc P w 0 (fun _=>true) held t (.agg cs) dd ps): ∃as,zK P d t as∧VI w ow (.agg as) (.agg cs):=by
 obtain ⟨fuel,h⟩:=h
 obtain ⟨as,g1,g2,g3⟩:=qjO how d fuel t _ dd ps hk h
 refine ⟨as,g1,.agg ?_ (fun i x hx=>g3.one i x ?_) (fun i c x hc hx=>g3.vi i c x hc ?_)⟩
 ·have:=g3.len;simpa [Value.cells] using this
 ·simpa [Value.cells] using hx
 ·simpa [Value.cells] using hx
end
end AF
end
section
namespace AF
open Go
def zk (v:Nat) (ty:TypeId) (cs:List AV):AObj:=if cs= [] then .emp v else .mem v ty cs
section
variable {h l : List AObj} {k v w n c : Nat} {ty : TypeId} {cs ms : List AV} {a : AV} {o : AObj}
theorem jA (h:cs≠ []):zk v ty cs= .mem v ty cs:=if_neg h
theorem verOf_own:qv (some (zk v ty cs))=v:=by unfold zk;split<;>rfl
theorem site_own0:qH (zk v ty cs::l) 0=true:=by unfold zk;split<;>rfl
theorem liveS_own0:ze (zk v ty cs::l) 0 w=(v==w):=by unfold zk;split<;>rfl
theorem tyOk_own:qmN (some (zk v ty cs)) ty=true:=by
 unfold zk
 split
 ·rfl
 ·simp [qmN]
theorem cells_own0:((cellsOf (zk v ty cs::l) 0 v).getD [])=cs:=by
 unfold zk
 split
 ·rename_i e;rw [e];rfl
 ·rw [cellsOf_0,if_pos rfl];rfl
theorem cellsS_own0:((cellsOf (zk v ty cs::l) 0 v).isSome=true)=(cs≠ []):=by
 unfold zk
 split
 ·rename_i e;rw [e];simp [cellsOf,qA]
 ·rename_i e;rw [cellsOf_0,if_pos rfl];simp [e]
theorem qmT {b:AV}:qdH (some (zk v ty cs)) ty w c (n+1) (b::ms)=zk (w+1) ty (cs.take c++b::ms):=by
 rw [show zk (w+1) ty (cs.take c++b::ms)= .mem (w+1) ty (cs.take c++b::ms)from jA (by simp)]
 unfold zk
 split
 ·rename_i e
  rw [e]
  simp [qdH]
 ·rfl
theorem appO_own1 {b:AV}:qdH (some (zk v ty cs)) ty w c 1 (b::ms)=zk (w+1) ty (cs.take c++b::ms):=qmT (n:=0)
end
attribute [go_sem] verOf_own site_own0 liveS_own0 tyOk_own cells_own0 cellsS_own0 appO_own1
end AF
end
section
namespace AF
open Go
def LowI (h hh:List AObj):Prop:=hh.length=h.length∧ ∀o∈hh,o∈h∨(qai h.length o∧qai (h.length+1) o)
theorem LowI.refl (h:List AObj):LowI h h:=⟨rfl,fun _ ho=> .inl ho⟩
theorem kE {hh tl:List AObj} {o:AObj} {k:Nat} (h:hh.length=k):qA k (hh++o::tl)=some o:=by subst h;exact getO_app0
theorem qbv {hh tl:List AObj} {o o':AObj} {k:Nat} (h:hh.length=k):qE k (hh++o::tl) o'=hh++o'::tl:=by subst h;exact setO_app0
def qts (P:Program) (f:FuncId) (cap:List AV) (xs:List (List AV)):Prop:=
 ∀(h:List AObj) (ts:List AV) (L:LInfo) (S:Nat→List AObj→Prop) (E:LS→List AObj→Prop),
  (∀i hh,S i hh→LowI h hh)→(∀s hh,E s hh→LowI h hh)→
  (∀i hh tl,(hi:i<xs.length)→S i hh→kx P h.length (xs[i]) (hh++ .lp .ready ts L::tl) (fun r h'=> ∃hh',(r= .bool true∧S (i+1) hh'∧h'=hh'++ .lp .ready ts L::tl)∨(∃s,r= .bool false∧E s hh'∧h'=hh'++ .lp s ts L::tl)))→
  S 0 h→(∀c∈ts,zE (h.length+1) c=true)→
  jg P f (.yld h.length::cap) (h++ [.lp .ready ts L]) (fun _ h'=> ∃hh,(S xs.length hh∧h'=hh++ [.lp .ready ts L])∨ ∃s,E s hh∧h'=hh++ [.lp s ts L])
theorem qhA {P:Program} {f:FuncId} {cap:List AV} {xs:List (List AV)} (hf:qts P f cap xs) {ps:List Nat} {b:Nat} {x y:C} {Q:Ex→Nx} {ts:List AV} {h:List AObj} (hps: ∀a∈xs,a.length=ps.length)
  (S:Nat→List AObj→Prop) (E:Ex→List AObj→Prop) (hS: ∀i hh,S i hh→LowI h hh) (hE: ∀s hh,E s hh→LowI h hh)
  (start:S 0 h) (hts: ∀c∈ts,zE (h.length+1) c=true)
  (body: ∀i hh tl L,(hi:i<xs.length)→S i hh→hh.length=h.length→
   qO P b x (fun e t2 h2=>e= .normal∧h2=hh++ .lp .ready ts L::tl∧
    qO P b y (fun e t3 h3=> ∃hh',h3=hh'++ .lp .busy ts L::tl∧hh'.length=h.length∧match e with
     | .normal=>S (i+1) hh'
     | .ret=>E .ret hh'
     | .exit id=>E (.exit id) hh') t2 (hh++ .lp .busy ts L::tl)) (qba ts ps (xs[i])) (hh++ .lp .ready ts L::tl))
  (done: ∀hh,S xs.length hh→Q .normal ts hh) (doneE: ∀e hh,E e hh→match e with
   | .normal=>False
   |e=>Q e ts hh):
  qek P (.fn (.func f) [] cap) ps (qO P b x) (qO P b y) Q ts h:=by
 intro L hy
 show jg _ _ _ _ _
 have key:=hf h ts L S (fun s hh=>match s with
  | .ret=>E .ret hh
  | .exit id=>E (.exit id) hh
  |_=>False) hS
  (by
   intro s hh hs
   cases s with
   |ret=>exact hE _ _ hs
   |exit id=>exact hE _ _ hs
   |ready=>exact hs.elim
   |busy=>exact hs.elim)
  (by
   intro i hh tl hi i4
   have hlen:=(hS _ _ i4).1
   refine hy h.length ts _ _ _ (kE hlen) (hps _ (List.getElem_mem hi)) ?_
   have hb:=body i hh tl L hi i4 hlen
   refine jS ?_ hb
   rintro e t2 h2 ⟨rfl,rfl,h3⟩
   refine ⟨rfl,⟨ts,kE hlen⟩,fun ts' hts'=> ?_⟩
   rw [kE hlen]at hts'
   cases hts'
   rw [qbv hlen]
   refine jS ?_ h3
   rintro e t3 h3' ⟨hh',rfl,g1,g2⟩
   refine ⟨ts,kE g1,?_⟩
   cases e with
   |normal=>exact ⟨hh',.inl ⟨rfl,g2,qbv g1⟩⟩
   |ret=>exact ⟨hh',.inr ⟨.ret,rfl,g2,qbv g1⟩⟩
   |exit id=>exact ⟨hh',.inr ⟨.exit id,rfl,g2,qbv g1⟩⟩)
  start hts
 refine key.le (kw.refl _) ?_
 rintro v h' ⟨hh,⟨g1,rfl⟩|⟨s,g1,rfl⟩⟩
 ·have hl:=hS _ _ g1
  exact ⟨v,VLe.refl _,hh,.ready,ts,L,rfl,hl.1,fun o ho=>(hl.2 o ho).imp (fun h=>h) And.left,done hh g1⟩
 ·cases s with
  |ready=>exact g1.elim
  |busy=>exact g1.elim
  |ret=>
   have hl:=hE _ _ g1
   exact ⟨v,VLe.refl _,hh,.ret,ts,L,rfl,hl.1,fun o ho=>(hl.2 o ho).imp (fun h=>h) And.left,doneE _ _ g1⟩
  |exit id=>
   have hl:=hE _ _ g1
   exact ⟨v,VLe.refl _,hh,.exit id,ts,L,rfl,hl.1,fun o ho=>(hl.2 o ho).imp (fun h=>h) And.left,doneE _ _ g1⟩
theorem qf9 {rs:List RV} {h0 h':List AObj} {K:AV→List AObj→Prop} {t:List AV} {r:AV} (hok:jD t h' rs) (hl:h'.length=h0.length) (hlow: ∀o∈h',o∈h0∨qai h0.length o) (hK:K r h')
  (hv:VLe (frz (fun k=>decide (h0.length≤k)) h' 8 (qfh (zB t h' rs))) r):fnQ rs h0 K .ret t h':=
 ⟨r,h',hK,hok,⟨[],(List.append_nil _).symm⟩,hl,hlow,VOut.of 8 hv⟩
theorem jT {rs:List RV} {h0 h':List AObj} {K:AV→List AObj→Prop} {t:List AV} {r:AV} (hok:jD t h' rs) (hl:h'.length=h0.length) (hlow: ∀o∈h',o∈h0∨qai h0.length o) (hK:K r h')
  (hv:VLe (frz (fun k=>decide (h0.length≤k)) h' 8 (qfh (zB t h' rs))) r):fnQ rs h0 K .normal t h':=
 ⟨r,h',hK,hok,⟨[],(List.append_nil _).symm⟩,hl,hlow,VOut.of 8 hv⟩
end AF
end
section
namespace AF
open Go
section
variable {P : Program} {b : Nat} {r : List RO} {K : Nx} {t : List AV} {h : List AObj} {xs : List X}
theorem qy3 {d:Nat}:opsA P b (⟨some d,none,.b2s,xs⟩::r) K t h=(flags (evs t xs)∧okL h .b2s (strips (evs t xs))∧opsA P b r K (zc d t (valL h .b2s (strips (evs t xs)))) h):=by simp only [opsA,stepO,stepA,R.kd,qG]
theorem qw1 {d j:Nat} {u:Bool}:opsA P b (⟨some d,some (j,u),.b2s,xs⟩::r) K t h=(qF (qK j t)=true∧(qx (qK j t) u=true→flags (evs t xs)∧okL h .b2s (strips (evs t xs)))∧opsA P b r K (zc d t (.gd (qx (qK j t) u) (valL h .b2s (strips (evs t xs))))) h):=by simp only [opsA,stepO,zD,R.kd,qG]
theorem qzb {d:Option Nat}:opsA P b (⟨d,none,.s2b,xs⟩::r) K t h=(flags (evs t xs)∧effE b h .s2b (strips (evs t xs)) t d (opsA P b r K)):=by simp only [opsA,stepO,stepA,R.kd]
theorem qxX {nx:List AV→List AObj→Prop} {d:Option Nat} {s:List UInt8}:effE b h .s2b [.str s] t d nx=((s.length:Int)≤140737488355328∧nx (qG t d (.sl s.length fun i=> [.int .u8 ((s.getD i 0).toNat:Int)])) h):=(rfl)
end
theorem w_s2bo {P:Program} {b:Nat} {r:List RO} {K:Nx} {t:List AV} {h:List AObj} {xs:List X} {d:Option Nat} {j:Nat} {ty:TypeId}:opsA P b (⟨d,none,.s2bo j ty,xs⟩::r) K t h=(flags (evs t xs)∧effE b h (.s2bo j ty) (strips (evs t xs)) t d (opsA P b r K)):=by simp only [opsA,stepO,stepA,R.kd]
theorem qus {b:Nat} {t:List AV} {h:List AObj} {nx:List AV→List AObj→Prop} {d:Option Nat} {s:List UInt8} {j:Nat} {ty:TypeId}:effE b h (.s2bo j ty) [.str s] t d nx=((qH h (b+j)=true∧(s.length:Int)≤140737488355328)∧nx (qG t d (.osl (b+j) (qv (qA (b+j) h)+1) 1 0 s.length)) (qE (b+j) h (.mem (qv (qA (b+j) h)+1) (ty+qad) (zM s)))):=(rfl)
attribute [go_sem] w_s2bo qus
theorem qjk (c:UInt8):k9 (.int .u8 (c.toNat:Int))=c:=by simp [k9]
theorem qkw (c:UInt8):qcL (.int .u8 (c.toNat:Int)):=by
 have:=c.toNat_lt
 exact ⟨by omega,by omega⟩
theorem qfJ {g:List AObj} {s:List UInt8}:valL g .b2s [.sl s.length fun i=> [.int .u8 ((s.getD i 0).toNat:Int)]]= .str s:=by
 show AV.str ((List.range s.length).map fun i=>k9 (.int .u8 ((s.getD i 0).toNat:Int)))=_
 congr 1
 apply List.ext_getElem
 ·simp
 ·intro i h1 h2
  simp only [List.getElem_map,List.getElem_range,qjk]
  rw [List.getD_eq_getElem?_getD,List.getElem?_eq_getElem h2];rfl
theorem qhu {g:List AObj} {s:List UInt8}:okL g .b2s [.sl s.length fun i=> [.int .u8 ((s.getD i 0).toNat:Int)]]=True:=eq_true (fun i _=>qkw _)
theorem qfI {g:List AObj}:valL g .b2s [.nl]= .str []:=rfl
theorem qht {g:List AObj}:okL g .b2s [.nl]=True:=rfl
theorem qeD {g:List AObj} {k v z p n:Nat}:valL g .b2s [.osl k v z p n]= .str (((((cellsOf g k v).getD []).drop p).take n).map k9):=rfl
theorem qfd {g:List AObj} {k v z p n:Nat}:okL g .b2s [.osl k v z p n]=(ze g k v=true∧z=1∧p+n≤((cellsOf g k v).getD []).length∧ ∀c∈((((cellsOf g k v).getD []).drop p).take n),qcL c):=rfl
theorem qsd {x:AV} {q:Bool}:jm (.bool false) x (.bool q)= .bool q:=by
 unfold jm
 simp only [AV.strip,qau]
 split
 ·rename_i p' q' h1 h2
  cases h2
  simp
 ·simp
theorem qse {y:AV} {p:Bool}:jm (.bool true) (.bool p) y= .bool p:=by
 unfold jm
 simp only [AV.strip,qau]
 split
 ·rename_i p' q' h1 h2
  cases h1
  simp
 ·simp
attribute [go_sem] qsd qse
theorem jr {P:Program} {f:Nat} {first cap args:List AV} {d:Option Nat} {nx:Nx} {t:List AV} {h:List AObj} {v:AV} (hc:qm P f (first++args++cap) h v h) (hn:nx (qG t d v) h):qaW P (.fn (.func f) first cap::args) d nx t h:=⟨v,h,hc,hn⟩
attribute [go_sem] qy3 qw1 qzb qxX qfJ qhu qfI qht qeD qfd
end AF
end
section
namespace AF
open Go
section
variable {P : Program} {b : Nat} {r : List RO} {K : Nx} {t : List AV} {h : List AObj} {xs : List X}
theorem qy6 {d:Nat}:opsA P b (⟨some d,none,.cap,xs⟩::r) K t h=(flags (evs t xs)∧okL h .cap (strips (evs t xs))∧opsA P b r K (zc d t (valL h .cap (strips (evs t xs)))) h):=by simp only [opsA,stepO,stepA,R.kd,qG]
theorem qwK {d:Option Nat} {j z m:Nat} {ty:TypeId} {zs:List AV}:opsA P b (⟨d,none,.appz j z ty zs m,xs⟩::r) K t h=(flags (evs t xs)∧effE b h (.appz j z ty zs m) (strips (evs t xs)) t d (opsA P b r K)):=by simp only [opsA,stepO,stepA,R.kd]
theorem qup {nx:List AV→List AObj→Prop} {d:Option Nat} {j sz:Nat} {ty:TypeId} {z:List AV} {bytes:Nat} {n:Int}:effE b h (.appz j sz ty z bytes) [.nl,.int .i64 n] t d nx=((qH h (b+j)=true∧z.length=sz∧0<n∧n*(bytes:Int)≤140737488355328∧n≤140737488355328)∧
   nx (qG t d (.osl (b+j) (qv (qA (b+j) h)+1) sz 0 n.toNat)) (qE (b+j) h (.mem (qv (qA (b+j) h)+1) ty (zr z n.toNat)))):=(rfl)
end
theorem valL_capnl {g:List AObj}:valL g .cap [.nl]= .int .i64 0:=rfl
theorem qkS {g:List AObj}:okL g .cap [.nl]=True:=rfl
theorem qie {g:List AObj} {z:Nat} {lo hi:Bool} {bs:List AV}:valL g (.slc z lo hi) (.nl::bs)= .nl:=rfl
theorem qfe {g:List AObj} {z:Nat} {k:IntKind} {c:Int}:okL g (.slc z false true) [.nl,.int k c]=(c=0):=by
 simp [okL,loB,hiB,kR]
 omega
theorem qee {g:List AObj} {z:Nat} {k m:IntKind} {a c:Int}:okL g (.slc z true true) [.nl,.int m a,.int k c]=(a=0∧c=0):=by
 simp [okL,loB,hiB,kR]
 omega
theorem qff {g:List AObj} {z:Nat} {m:IntKind} {a:Int}:okL g (.slc z true false) [.nl,.int m a]=(a=0):=by
 simp [okL,loB,hiB,kR]
 omega
attribute [go_sem] qy6 qwK qup valL_capnl qkS qie qfe qee qff
end AF
end
section
namespace AF
open Go
section
variable {P : Program} {b : Nat} {K : Nx} {t : List AV} {h : List AObj}
theorem t_nil:qa8 P b .nil K t h=K t h:=(rfl)
theorem t_one {o:RO} {r:DT}:qa8 P b (.one o r) K t h=opsA P b [o] (qa8 P b r K) t h:=(rfl)
theorem t_two {x y:DT}:qa8 P b (.two x y) K t h=(qa8 P b x K t h∧qa8 P b y K t h):=(rfl)
theorem t_univ {r:DT} {d:Option Nat} {xs:List X}:qa8 P b (.uni ⟨d,none,.callv,xs⟩ r) K t h=qpI P (evs t xs) d (qa8 P b r K) t h:=(rfl)
theorem t_uni {r:DT} {d:Option Nat} {f:Nat} {p:Bool} {xs:List X}:qa8 P b (.uni ⟨d,none,.call f p,xs⟩ r) K t h=qm4 P f (evs t xs) d (qa8 P b r K) t h:=(rfl)
theorem tg_uni {r:DT} {d:Option Nat} {f:Nat} {p:Bool} {xs:List X} {j:Nat} {u:Bool}:qa8 P b (.uni ⟨d,some (j,u),.call f p,xs⟩ r) K t h=(qF (qK j t)=true∧qpH P f (qx (qK j t) u) (evs t xs) d (qa8 P b r K) t h):=(rfl)
theorem qq2 {d:DT} {Q:Ex→Nx} (T:List AV) (H:List AObj) (h1:qa8 P b d (fun t' h'=>t'=T∧h'=H) t h) (h2:Q .normal T H):qO P b (.draw d) Q t h:=
 ⟨_,h1,fun t' h' ⟨e1,e2⟩=>by subst e1;subst e2;exact h2⟩
theorem qM {f:Nat} {vs:List AV} {d:Option Nat} {nx:Nx} {r:AV} (hc: ∀h0,qm P f (strips vs) h0 r h0) (hf:flags vs) (hn:nx (qG t d r) h):qm4 P f vs d nx t h:=⟨hf,r,hc,hn⟩
end
attribute [go_sem] t_univ t_nil t_one t_two t_uni tg_uni
end AF
end
section
namespace AF
open Go
section
variable {P : Program} {b : Nat} {r : List RO} {K : Nx} {t : List AV} {h l : List AObj} {xs : List X} {ks : AK} {ok : Bool} {z : AV} {d : Option Nat} {nx : List AV → List AObj → Prop}
theorem w_mlk {d:Nat}:opsA P b (⟨some d,none,.mlk ks ok z,xs⟩::r) K t h=(flags (evs t xs)∧okL h (.mlk ks ok z) (strips (evs t xs))∧opsA P b r K (zc d t (valL h (.mlk ks ok z) (strips (evs t xs)))) h):=by simp only [opsA,stepO,stepA,R.kd,qG]
theorem wg_mlk {d j:Nat} {u:Bool}:opsA P b (⟨some d,some (j,u),.mlk ks ok z,xs⟩::r) K t h=(qF (qK j t)=true∧(qx (qK j t) u=true→flags (evs t xs)∧okL h (.mlk ks ok z) (strips (evs t xs)))∧opsA P b r K (zc d t (.gd (qx (qK j t) u) (valL h (.mlk ks ok z) (strips (evs t xs))))) h):=by simp only [opsA,stepO,zD,R.kd,qG]
theorem w_mkmap {j:Nat}:opsA P b (⟨d,none,.mkmap j,xs⟩::r) K t h=(flags (evs t xs)∧effE b h (.mkmap j) (strips (evs t xs)) t d (opsA P b r K)):=by simp only [opsA,stepO,stepA,R.kd]
theorem w_mupd:opsA P b (⟨d,none,.mupd ks,xs⟩::r) K t h=(flags (evs t xs)∧effE b h (.mupd ks) (strips (evs t xs)) t d (opsA P b r K)):=by simp only [opsA,stepO,stepA,R.kd]
theorem e_mkmap {j:Nat}:effE b h (.mkmap j) [] t d nx=(qH h (b+j)=true∧nx (qG t d (.mp (b+j) (qv (qA (b+j) h)+1))) (qE (b+j) h (.map (qv (qA (b+j) h)+1) []))):=(rfl)
theorem e_mupd {k ver:Nat} {x v:AV}:effE b h (.mupd ks) [.mp k ver,x,v] t d nx=(((zR h k ver).isSome=true∧okK ks x∧(qce ks x ((zR h k ver).getD []) 0).isSome=true)∧
  nx (qG t d (.tup [])) (qE k h (.map ver (qvX ks x v ((zR h k ver).getD []))))):=(rfl)
end
section
variable {h l : List AObj} {ks : AK} {ok : Bool} {z x : AV} {k ver n v w : Nat} {es : List (AV × AV)} {o : AObj}
theorem valL_mlk_t:valL h (.mlk ks true z) [.mp k ver,x]= .tup [(qho ks x z ((zR h k ver).getD [])).1,.bool (qho ks x z ((zR h k ver).getD [])).2]:=rfl
theorem valL_mlk_f:valL h (.mlk ks false z) [.mp k ver,x]=(qho ks x z ((zR h k ver).getD [])).1:=rfl
theorem okL_mlk:okL h (.mlk ks ok z) [.mp k ver,x]=((zR h k ver).isSome=true∧okK ks x∧(qce ks x ((zR h k ver).getD []) 0).isSome=true):=rfl
theorem mapOf_app:zR (h++l) (h.length+n) v=zR l n v:=by unfold zR;rw [getO_app];rfl
theorem mapOf_app0:zR (h++l) h.length v=zR l 0 v:=by unfold zR;rw [getO_app0];rfl
theorem mapOf_0:zR (.map w es::l) 0 v=if w=v then some es else none:=rfl
theorem mapOf_s:zR (o::l) (n+1) v=zR l n v:=rfl
theorem site_0_map:qH (.map v es::l) 0=true:=rfl
theorem verOf_map:qv (some (.map v es))=v:=rfl
theorem strip_mp:(AV.mp k v).strip=AV.mp k v:=rfl
theorem flag_mp:(AV.mp k v).flag=true:=rfl
theorem solid_mp:(AV.mp k v).solid=true:=rfl
theorem cells_mp:(AV.mp k v).cells= [AV.mp k v]:=rfl
theorem okK_str {s:List UInt8}:okK .str (.str s)=True:=rfl
theorem okK_int {q:IntKind} {i:Int}:okK .int (.int q i)=True:=rfl
theorem okK_bool {q:Bool}:okK .bool (.bool q)=True:=rfl
theorem frz_mp {fz:Nat→Bool}:frz fz h (n+1) (.mp k v)=if fz k then .undef else .mp k v:=rfl
end
attribute [go_sem] w_mlk wg_mlk w_mkmap w_mupd e_mkmap e_mupd valL_mlk_t valL_mlk_f okL_mlk mapOf_app mapOf_app0 mapOf_0 mapOf_s site_0_map verOf_map strip_mp flag_mp solid_mp cells_mp okK_str okK_int okK_bool frz_mp
section
variable {P : Program} {b : Nat} {r : List RO} {K : Nx} {t : List AV} {h : List AObj} {xs : List X} {d : Nat}
theorem qwS {z:Nat}:opsA P b (⟨some d,none,.idxI z,xs⟩::r) K t h=(flags (evs t xs)∧okP (.idxI z) (strips (evs t xs))∧opsA P b r K (zc d t (valP (.idxI z) (strips (evs t xs)))) h):=by simp only [opsA,stepO,stepA,R.kd,qG]
theorem qwQ {z:Nat}:opsA P b (⟨some d,none,.fldI z,xs⟩::r) K t h=(flags (evs t xs)∧okP (.fldI z) (strips (evs t xs))∧opsA P b r K (zc d t (valP (.fldI z) (strips (evs t xs)))) h):=by simp only [opsA,stepO,stepA,R.kd,qG]
theorem qs0 {z:Option Nat}:opsA P b (⟨some d,none,.loadI z,xs⟩::r) K t h=(flags (evs t xs)∧okP (.loadI z) (strips (evs t xs))∧opsA P b r K (zc d t (valP (.loadI z) (strips (evs t xs)))) h):=by simp only [opsA,stepO,stepA,R.kd,qG]
end
theorem valP_idxI {z n:Nat} {f:Nat→List AV} {k:IntKind} {i:Int}:valP (.idxI z) [.sl n f,.int k i]= .ip (f i.toNat):=rfl
theorem qor {z n:Nat} {f:Nat→List AV} {k:IntKind} {i:Int}:okP (.idxI z) [.sl n f,.int k i]=((0≤i∧i<n)∧(f i.toNat).length=z):=rfl
theorem qmq {z:Nat} {cs:List AV}:valP (.fldI z) [.ip cs]= .ip (cs.drop z):=rfl
theorem qoq {z:Nat} {cs:List AV}:okP (.fldI z) [.ip cs]=(z<cs.length):=rfl
theorem qih {z:Option Nat} {cs:List AV}:valP (.loadI z) [.ip cs]=cut cs 0 z:=rfl
theorem qk1 {z:Option Nat} {cs:List AV}:okP (.loadI z) [.ip cs]=jv cs 0 z:=rfl
attribute [go_sem] qwS qwQ qs0 valP_idxI qor qmq qoq qih qk1
end AF
end
theorem gdqA {α:Type _} {l:List α} {i:Nat} {a:α}:l.getD i a=l[i]?.getD a:=List.getD_eq_getElem?_getD
theorem qR {α:Type _} {l:List α} {i:Nat} (h:i<l.length):l[i]? =some l[i]:=List.getElem?_eq_getElem h
