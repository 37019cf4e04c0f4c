import Derived.Test.YtgoandblgcjleaaGreatDoorK2
import Derived.Test.YtgoandblgcjleaaGreatDoorK3
import Derived.Below
import Derived.ChangeSame
import Derived.ChangeShapes
import Derived.CallsIn
import Derived.Carry
import Derived.RowKit
import Derived.WalkKit
import Derived.ProofKit
set_option linter.all false
set_option linter.unusedSimpArgs false
set_option linter.unusedVariables false
set_option linter.unusedSectionVars false
section
namespace AF
open Go
set_option maxRecDepth 4000
def qAF (k:IntKind) (a c:Int):Int:=k.wrap (a*2^(min c.toNat k.bits))
def qzm (k:IntKind) (a c:Int):Int:=a.fdiv (2^(min c.toNat k.bits))
def qrq (k:IntKind) (a c:Int):Int:=k.wrap (BitVec.ofInt k.bits a&&&BitVec.ofInt k.bits c).toNat
def orK (k:IntKind) (a c:Int):Int:=k.wrap (BitVec.ofInt k.bits a|||BitVec.ofInt k.bits c).toNat
def qC3 (k:IntKind) (a c:Int):Int:=k.wrap (BitVec.ofInt k.bits a^^^BitVec.ofInt k.bits c).toNat
def qe2 (k:IntKind) (a c:Int):Int:=k.wrap (BitVec.ofInt k.bits a&&& ~~~ BitVec.ofInt k.bits c).toNat
theorem qxq {a0:AV} {r:List AV}:qO 0 (a0::r)=a0:=rfl
theorem qx6 {a0 v:AV} {r:List AV}:zy 0 (a0::r) v=v::r:=rfl
theorem qxr {a0 a1:AV} {r:List AV}:qO 1 (a0::a1::r)=a1:=rfl
theorem qx7 {a0 a1 v:AV} {r:List AV}:zy 1 (a0::a1::r) v=a0::v::r:=rfl
theorem qxs {a0 a1 a2:AV} {r:List AV}:qO 2 (a0::a1::a2::r)=a2:=rfl
theorem qx8 {a0 a1 a2 v:AV} {r:List AV}:zy 2 (a0::a1::a2::r) v=a0::a1::v::r:=rfl
theorem qxt {a0 a1 a2 a3:AV} {r:List AV}:qO 3 (a0::a1::a2::a3::r)=a3:=rfl
theorem qx9 {a0 a1 a2 a3 v:AV} {r:List AV}:zy 3 (a0::a1::a2::a3::r) v=a0::a1::a2::v::r:=rfl
theorem qxu {a0 a1 a2 a3 a4:AV} {r:List AV}:qO 4 (a0::a1::a2::a3::a4::r)=a4:=rfl
theorem qya {a0 a1 a2 a3 a4 v:AV} {r:List AV}:zy 4 (a0::a1::a2::a3::a4::r) v=a0::a1::a2::a3::v::r:=rfl
theorem qxv {a0 a1 a2 a3 a4 a5:AV} {r:List AV}:qO 5 (a0::a1::a2::a3::a4::a5::r)=a5:=rfl
theorem qyb {a0 a1 a2 a3 a4 a5 v:AV} {r:List AV}:zy 5 (a0::a1::a2::a3::a4::a5::r) v=a0::a1::a2::a3::a4::v::r:=rfl
theorem qxw {a0 a1 a2 a3 a4 a5 a6:AV} {r:List AV}:qO 6 (a0::a1::a2::a3::a4::a5::a6::r)=a6:=rfl
theorem qyc {a0 a1 a2 a3 a4 a5 a6 v:AV} {r:List AV}:zy 6 (a0::a1::a2::a3::a4::a5::a6::r) v=a0::a1::a2::a3::a4::a5::v::r:=rfl
theorem qxx {a0 a1 a2 a3 a4 a5 a6 a7:AV} {r:List AV}:qO 7 (a0::a1::a2::a3::a4::a5::a6::a7::r)=a7:=rfl
theorem qyd {a0 a1 a2 a3 a4 a5 a6 a7 v:AV} {r:List AV}:zy 7 (a0::a1::a2::a3::a4::a5::a6::a7::r) v=a0::a1::a2::a3::a4::a5::a6::v::r:=rfl
theorem qsX {n:Nat} {a0 a1 a2 a3 a4 a5 a6 a7:AV} {r:List AV}:qO (n+8) (a0::a1::a2::a3::a4::a5::a6::a7::r)=qO n r:=rfl
theorem qtQ {n:Nat} {a0 a1 a2 a3 a4 a5 a6 a7 v:AV} {r:List AV}:zy (n+8) (a0::a1::a2::a3::a4::a5::a6::a7::r) v=a0::a1::a2::a3::a4::a5::a6::a7::zy n r v:=rfl
theorem qoE {n:Nat} {a0 a1 a2 a3 a4 a5 a6 a7 a8 a9 a10 a11 a12 a13 a14 a15 a16 a17 a18 a19 a20 a21 a22 a23 a24 a25 a26 a27 a28 a29 a30 a31:AV} {r:List AV}:qO (n+32) (a0::a1::a2::a3::a4::a5::a6::a7::a8::a9::a10::a11::a12::a13::a14::a15::a16::a17::a18::a19::a20::a21::a22::a23::a24::a25::a26::a27::a28::a29::a30::a31::r)=qO n r:=rfl
theorem qpC {n:Nat} {a0 a1 a2 a3 a4 a5 a6 a7 a8 a9 a10 a11 a12 a13 a14 a15 a16 a17 a18 a19 a20 a21 a22 a23 a24 a25 a26 a27 a28 a29 a30 a31 v:AV} {r:List AV}:zy (n+32) (a0::a1::a2::a3::a4::a5::a6::a7::a8::a9::a10::a11::a12::a13::a14::a15::a16::a17::a18::a19::a20::a21::a22::a23::a24::a25::a26::a27::a28::a29::a30::a31::r) v=a0::a1::a2::a3::a4::a5::a6::a7::a8::a9::a10::a11::a12::a13::a14::a15::a16::a17::a18::a19::a20::a21::a22::a23::a24::a25::a26::a27::a28::a29::a30::a31::zy n r v:=rfl
theorem qCf {t:List AV} {n:Nat}:ev t (.t n)=qO n t:=rfl
theorem qCe {t:List AV} {v:AV}:ev t (.c v)=v:=rfl
theorem qie {b:Bool}:(AV.bool b).strip=(AV.bool b):=rfl
theorem qkB {b:Bool}:(AV.bool b).flag=true:=rfl
theorem qhY {b:Bool}:(AV.bool b).solid=true:=rfl
theorem qg8 {b:Bool}:(AV.bool b).cells= [(AV.bool b)]:=rfl
theorem qmC {k:IntKind} {n:Int}:(AV.int k n).strip=(AV.int k n):=rfl
theorem qom {k:IntKind} {n:Int}:(AV.int k n).flag=true:=rfl
theorem qmi {k:IntKind} {n:Int}:(AV.int k n).solid=true:=rfl
theorem qj0 {k:IntKind} {n:Int}:(AV.int k n).cells= [(AV.int k n)]:=rfl
theorem qmG {s:List UInt8}:(AV.str s).strip=(AV.str s):=rfl
theorem qoq {s:List UInt8}:(AV.str s).flag=true:=rfl
theorem qmm {s:List UInt8}:(AV.str s).solid=true:=rfl
theorem qj4 {s:List UInt8}:(AV.str s).cells= [(AV.str s)]:=rfl
theorem qp2 {n:Nat} {f:Nat→List AV}:(AV.sl n f).strip=(AV.sl n f):=rfl
theorem qsK {n:Nat} {f:Nat→List AV}:(AV.sl n f).flag=true:=rfl
theorem qpP {n:Nat} {f:Nat→List AV}:(AV.sl n f).solid=true:=rfl
theorem qnU {n:Nat} {f:Nat→List AV}:(AV.sl n f).cells= [(AV.sl n f)]:=rfl
theorem qmE {k v s p l:Nat}:(AV.osl k v s p l).strip=(AV.osl k v s p l):=rfl
theorem qoo {k v s p l:Nat}:(AV.osl k v s p l).flag=true:=rfl
theorem qmk {k v s p l:Nat}:(AV.osl k v s p l).solid=true:=rfl
theorem qj2 {k v s p l:Nat}:(AV.osl k v s p l).cells= [(AV.osl k v s p l)]:=rfl
theorem qmA {c:List AV}:(AV.agg c).strip=(AV.agg c):=rfl
theorem qok {c:List AV}:(AV.agg c).flag=true:=rfl
theorem qmg {c:List AV}:(AV.agg c).solid=true:=rfl
theorem qmH {c:List AV}:(AV.tup c).strip=(AV.tup c):=rfl
theorem qor {c:List AV}:(AV.tup c).flag=true:=rfl
theorem qj5 {c:List AV}:(AV.tup c).cells= [(AV.tup c)]:=rfl
theorem qpZ {c:List AV}:(AV.ip c).strip=(AV.ip c):=rfl
theorem qsH {c:List AV}:(AV.ip c).flag=true:=rfl
theorem qpM {c:List AV}:(AV.ip c).solid=true:=rfl
theorem qnR {c:List AV}:(AV.ip c).cells= [(AV.ip c)]:=rfl
theorem qp1 {k v p:Nat}:(AV.op k v p).strip=(AV.op k v p):=rfl
theorem qsJ {k v p:Nat}:(AV.op k v p).flag=true:=rfl
theorem qpO {k v p:Nat}:(AV.op k v p).solid=true:=rfl
theorem qnT {k v p:Nat}:(AV.op k v p).cells= [(AV.op k v p)]:=rfl
theorem qih  :AV.nilp.strip=AV.nilp:=rfl
theorem qkE  :AV.nilp.flag=true:=rfl
theorem qh1  :AV.nilp.solid=true:=rfl
theorem qhb  :AV.nilp.cells= [AV.nilp]:=rfl
theorem qp0  :AV.nl.strip=AV.nl:=rfl
theorem qsI  :AV.nl.flag=true:=rfl
theorem qpN  :AV.nl.solid=true:=rfl
theorem qnS  :AV.nl.cells= [AV.nl]:=rfl
theorem qpX {f:Fn} {a c:List AV}:(AV.fn f a c).strip=(AV.fn f a c):=rfl
theorem qsF {f:Fn} {a c:List AV}:(AV.fn f a c).flag=true:=rfl
theorem qpL {f:Fn} {a c:List AV}:(AV.fn f a c).solid=true:=rfl
theorem qnQ {f:Fn} {a c:List AV}:(AV.fn f a c).cells= [(AV.fn f a c)]:=rfl
theorem qmI {k:Nat}:(AV.yld k).strip=(AV.yld k):=rfl
theorem qos {k:Nat}:(AV.yld k).flag=true:=rfl
theorem qmn {k:Nat}:(AV.yld k).solid=true:=rfl
theorem qj6 {k:Nat}:(AV.yld k).cells= [(AV.yld k)]:=rfl
theorem qfS  :AV.nilfn.strip=AV.nilfn:=rfl
theorem qhr  :AV.nilfn.flag=true:=rfl
theorem qfG  :AV.nilfn.solid=true:=rfl
theorem qfd  :AV.nilfn.cells= [AV.nilfn]:=rfl
theorem qmB  :AV.ifc.strip=AV.ifc:=rfl
theorem qol  :AV.ifc.flag=true:=rfl
theorem qmh  :AV.ifc.solid=true:=rfl
theorem qjZ  :AV.ifc.cells= [AV.ifc]:=rfl
theorem qfT  :AV.nilif.strip=AV.nilif:=rfl
theorem qhs  :AV.nilif.flag=true:=rfl
theorem qfH  :AV.nilif.solid=true:=rfl
theorem qfe  :AV.nilif.cells= [AV.nilif]:=rfl
theorem qfW:AV.undef.strip=AV.undef:=rfl
theorem qhv:AV.undef.flag=true:=rfl
theorem qjY {c:List AV}:(AV.agg c).cells=c:=rfl
theorem qpY {g:Bool} {v:AV}:(AV.gd g v).strip=v:=rfl
theorem qsG {g:Bool} {v:AV}:(AV.gd g v).flag=g:=rfl
theorem qCW {P:Program} {b:Nat} {r:List RO} {K:Nx} {t:List AV} {h:List AObj} {d:Nat}  {x:X}:opsA P b (⟨some d,none,.mv,[x]⟩::r) K t h=((ev t x).flag=true∧opsA P b r K (zy d t ((ev t x).strip)) h):=by simp only [opsA,stepO,stepA,R.kd,evs,flags,strips,qL,okP,okL,valP,valL,and_true,true_and,and_assoc]
theorem qBa {P:Program} {b:Nat} {r:List RO} {K:Nx} {t:List AV} {h:List AObj} {d:Nat}  {x:X} {j:Nat} {u:Bool}:opsA P b (⟨some d,some (j,u),.mv,[x]⟩::r) K t h=(qH (qO j t)=true∧(qv (qO j t) u=true→(ev t x).flag=true)∧opsA P b r K (zy d t (.gd (qv (qO j t) u) ((ev t x).strip))) h):=by simp only [opsA,stepO,zS,R.kd,evs,flags,strips,qL,okP,okL,valP,valL,and_true,true_and,and_assoc]
theorem qAT {P:Program} {b:Nat} {r:List RO} {K:Nx} {t:List AV} {h:List AObj} {d:Nat} {q:BinOp} {x y:X}:opsA P b (⟨some d,none,.bin q,[x,y]⟩::r) K t h=((ev t x).flag=true∧(ev t y).flag=true∧qad q (ev t x).strip (ev t y).strip∧opsA P b r K (zy d t (qav q (ev t x).strip (ev t y).strip)) h):=by simp only [opsA,stepO,stepA,R.kd,evs,flags,strips,qL,okP,okL,valP,valL,and_true,true_and,and_assoc]
theorem qy9 {P:Program} {b:Nat} {r:List RO} {K:Nx} {t:List AV} {h:List AObj} {d:Nat} {q:BinOp} {x y:X} {j:Nat} {u:Bool}:opsA P b (⟨some d,some (j,u),.bin q,[x,y]⟩::r) K t h=(qH (qO j t)=true∧(qv (qO j t) u=true→(ev t x).flag=true∧(ev t y).flag=true∧qad q (ev t x).strip (ev t y).strip)∧opsA P b r K (zy d t (.gd (qv (qO j t) u) (qav q (ev t x).strip (ev t y).strip))) h):=by simp only [opsA,stepO,zS,R.kd,evs,flags,strips,qL,okP,okL,valP,valL,and_true,true_and,and_assoc]
theorem qyx {P:Program} {b:Nat} {r:List RO} {K:Nx} {t:List AV} {h:List AObj} {d:Nat} {n:Bool} {xs:List X}:opsA P b (⟨some d,none,.bool n,xs⟩::r) K t h=(flags (evs t xs)∧okP (.bool n) (strips (evs t xs))∧opsA P b r K (zy d t (valP (.bool n) (strips (evs t xs)))) h):=by simp only [opsA,stepO,stepA,R.kd,qL]
theorem quj {P:Program} {b:Nat} {r:List RO} {K:Nx} {t:List AV} {h:List AObj} {d:Nat} {n:Bool} {xs:List X} {j:Nat} {u:Bool}:opsA P b (⟨some d,some (j,u),.bool n,xs⟩::r) K t h=(qH (qO j t)=true∧(qv (qO j t) u=true→flags (evs t xs)∧okP (.bool n) (strips (evs t xs)))∧opsA P b r K (zy d t (.gd (qv (qO j t) u) (valP (.bool n) (strips (evs t xs))))) h):=by simp only [opsA,stepO,zS,R.kd,qL]
theorem qCX {P:Program} {b:Nat} {r:List RO} {K:Nx} {t:List AV} {h:List AObj} {d:Nat} {q:UnOp} {xs:List X}:opsA P b (⟨some d,none,.un q,xs⟩::r) K t h=(flags (evs t xs)∧okP (.un q) (strips (evs t xs))∧opsA P b r K (zy d t (valP (.un q) (strips (evs t xs)))) h):=by simp only [opsA,stepO,stepA,R.kd,qL]
theorem qBb {P:Program} {b:Nat} {r:List RO} {K:Nx} {t:List AV} {h:List AObj} {d:Nat} {q:UnOp} {xs:List X} {j:Nat} {u:Bool}:opsA P b (⟨some d,some (j,u),.un q,xs⟩::r) K t h=(qH (qO j t)=true∧(qv (qO j t) u=true→flags (evs t xs)∧okP (.un q) (strips (evs t xs)))∧opsA P b r K (zy d t (.gd (qv (qO j t) u) (valP (.un q) (strips (evs t xs))))) h):=by simp only [opsA,stepO,zS,R.kd,qL]
theorem qyA {P:Program} {b:Nat} {r:List RO} {K:Nx} {t:List AV} {h:List AObj} {d:Nat} {k:IntKind} {xs:List X}:opsA P b (⟨some d,none,.conv k,xs⟩::r) K t h=(flags (evs t xs)∧okP (.conv k) (strips (evs t xs))∧opsA P b r K (zy d t (valP (.conv k) (strips (evs t xs)))) h):=by simp only [opsA,stepO,stepA,R.kd,qL]
theorem qul {P:Program} {b:Nat} {r:List RO} {K:Nx} {t:List AV} {h:List AObj} {d:Nat} {k:IntKind} {xs:List X} {j:Nat} {u:Bool}:opsA P b (⟨some d,some (j,u),.conv k,xs⟩::r) K t h=(qH (qO j t)=true∧(qv (qO j t) u=true→flags (evs t xs)∧okP (.conv k) (strips (evs t xs)))∧opsA P b r K (zy d t (.gd (qv (qO j t) u) (valP (.conv k) (strips (evs t xs))))) h):=by simp only [opsA,stepO,zS,R.kd,qL]
theorem qud {P:Program} {b:Nat} {r:List RO} {K:Nx} {t:List AV} {h:List AObj} {d:Nat} {k:NK} {n:Bool} {xs:List X}:opsA P b (⟨some d,none,.isnil k n,xs⟩::r) K t h=(flags (evs t xs)∧okP (.isnil k n) (strips (evs t xs))∧opsA P b r K (zy d t (valP (.isnil k n) (strips (evs t xs)))) h):=by simp only [opsA,stepO,stepA,R.kd,qL]
theorem qqp {P:Program} {b:Nat} {r:List RO} {K:Nx} {t:List AV} {h:List AObj} {d:Nat} {k:NK} {n:Bool} {xs:List X} {j:Nat} {u:Bool}:opsA P b (⟨some d,some (j,u),.isnil k n,xs⟩::r) K t h=(qH (qO j t)=true∧(qv (qO j t) u=true→flags (evs t xs)∧okP (.isnil k n) (strips (evs t xs)))∧opsA P b r K (zy d t (.gd (qv (qO j t) u) (valP (.isnil k n) (strips (evs t xs))))) h):=by simp only [opsA,stepO,zS,R.kd,qL]
theorem qAQ {P:Program} {b:Nat} {r:List RO} {K:Nx} {t:List AV} {h:List AObj} {d:Nat} {ks:List AK} {n:Bool} {xs:List X}:opsA P b (⟨some d,none,.aeq ks n,xs⟩::r) K t h=(flags (evs t xs)∧okP (.aeq ks n) (strips (evs t xs))∧opsA P b r K (zy d t (valP (.aeq ks n) (strips (evs t xs)))) h):=by simp only [opsA,stepO,stepA,R.kd,qL]
theorem qy7 {P:Program} {b:Nat} {r:List RO} {K:Nx} {t:List AV} {h:List AObj} {d:Nat} {ks:List AK} {n:Bool} {xs:List X} {j:Nat} {u:Bool}:opsA P b (⟨some d,some (j,u),.aeq ks n,xs⟩::r) K t h=(qH (qO j t)=true∧(qv (qO j t) u=true→flags (evs t xs)∧okP (.aeq ks n) (strips (evs t xs)))∧opsA P b r K (zy d t (.gd (qv (qO j t) u) (valP (.aeq ks n) (strips (evs t xs))))) h):=by simp only [opsA,stepO,zS,R.kd,qL]
theorem qAX {P:Program} {b:Nat} {r:List RO} {K:Nx} {t:List AV} {h:List AObj} {d:Nat} {p:Nat} {n:Option Nat} {xs:List X}:opsA P b (⟨some d,none,.fld p n,xs⟩::r) K t h=(flags (evs t xs)∧okP (.fld p n) (strips (evs t xs))∧opsA P b r K (zy d t (valP (.fld p n) (strips (evs t xs)))) h):=by simp only [opsA,stepO,stepA,R.kd,qL]
theorem qzb {P:Program} {b:Nat} {r:List RO} {K:Nx} {t:List AV} {h:List AObj} {d:Nat} {p:Nat} {n:Option Nat} {xs:List X} {j:Nat} {u:Bool}:opsA P b (⟨some d,some (j,u),.fld p n,xs⟩::r) K t h=(qH (qO j t)=true∧(qv (qO j t) u=true→flags (evs t xs)∧okP (.fld p n) (strips (evs t xs)))∧opsA P b r K (zy d t (.gd (qv (qO j t) u) (valP (.fld p n) (strips (evs t xs))))) h):=by simp only [opsA,stepO,zS,R.kd,qL]
theorem qAW {P:Program} {b:Nat} {r:List RO} {K:Nx} {t:List AV} {h:List AObj} {d:Nat} {i:Nat} {xs:List X}:opsA P b (⟨some d,none,.ext i,xs⟩::r) K t h=(flags (evs t xs)∧okP (.ext i) (strips (evs t xs))∧opsA P b r K (zy d t (valP (.ext i) (strips (evs t xs)))) h):=by simp only [opsA,stepO,stepA,R.kd,qL]
theorem qza {P:Program} {b:Nat} {r:List RO} {K:Nx} {t:List AV} {h:List AObj} {d:Nat} {i:Nat} {xs:List X} {j:Nat} {u:Bool}:opsA P b (⟨some d,some (j,u),.ext i,xs⟩::r) K t h=(qH (qO j t)=true∧(qv (qO j t) u=true→flags (evs t xs)∧okP (.ext i) (strips (evs t xs)))∧opsA P b r K (zy d t (.gd (qv (qO j t) u) (valP (.ext i) (strips (evs t xs))))) h):=by simp only [opsA,stepO,zS,R.kd,qL]
theorem qub {P:Program} {b:Nat} {r:List RO} {K:Nx} {t:List AV} {h:List AObj} {d:Nat} {z:List AV} {ps:List (Nat×Nat)} {xs:List X}:opsA P b (⟨some d,none,.build z ps,xs⟩::r) K t h=(flags (evs t xs)∧okP (.build z ps) (strips (evs t xs))∧opsA P b r K (zy d t (valP (.build z ps) (strips (evs t xs)))) h):=by simp only [opsA,stepO,stepA,R.kd,qL]
theorem qqn {P:Program} {b:Nat} {r:List RO} {K:Nx} {t:List AV} {h:List AObj} {d:Nat} {z:List AV} {ps:List (Nat×Nat)} {xs:List X} {j:Nat} {u:Bool}:opsA P b (⟨some d,some (j,u),.build z ps,xs⟩::r) K t h=(qH (qO j t)=true∧(qv (qO j t) u=true→flags (evs t xs)∧okP (.build z ps) (strips (evs t xs)))∧opsA P b r K (zy d t (.gd (qv (qO j t) u) (valP (.build z ps) (strips (evs t xs))))) h):=by simp only [opsA,stepO,zS,R.kd,qL]
theorem qyG {P:Program} {b:Nat} {r:List RO} {K:Nx} {t:List AV} {h:List AObj} {d:Nat} {f:Fn} {n:Nat} {xs:List X}:opsA P b (⟨some d,none,.mkfn f n,xs⟩::r) K t h=(flags (evs t xs)∧okP (.mkfn f n) (strips (evs t xs))∧opsA P b r K (zy d t (valP (.mkfn f n) (strips (evs t xs)))) h):=by simp only [opsA,stepO,stepA,R.kd,qL]
theorem quq {P:Program} {b:Nat} {r:List RO} {K:Nx} {t:List AV} {h:List AObj} {d:Nat} {f:Fn} {n:Nat} {xs:List X} {j:Nat} {u:Bool}:opsA P b (⟨some d,some (j,u),.mkfn f n,xs⟩::r) K t h=(qH (qO j t)=true∧(qv (qO j t) u=true→flags (evs t xs)∧okP (.mkfn f n) (strips (evs t xs)))∧opsA P b r K (zy d t (.gd (qv (qO j t) u) (valP (.mkfn f n) (strips (evs t xs))))) h):=by simp only [opsA,stepO,zS,R.kd,qL]
theorem qyK {P:Program} {b:Nat} {r:List RO} {K:Nx} {t:List AV} {h:List AObj} {d:Nat}  {xs:List X}:opsA P b (⟨some d,none,.slen,xs⟩::r) K t h=(flags (evs t xs)∧okP (.slen) (strips (evs t xs))∧opsA P b r K (zy d t (valP (.slen) (strips (evs t xs)))) h):=by simp only [opsA,stepO,stepA,R.kd,qL]
theorem qut {P:Program} {b:Nat} {r:List RO} {K:Nx} {t:List AV} {h:List AObj} {d:Nat}  {xs:List X} {j:Nat} {u:Bool}:opsA P b (⟨some d,some (j,u),.slen,xs⟩::r) K t h=(qH (qO j t)=true∧(qv (qO j t) u=true→flags (evs t xs)∧okP (.slen) (strips (evs t xs)))∧opsA P b r K (zy d t (.gd (qv (qO j t) u) (valP (.slen) (strips (evs t xs))))) h):=by simp only [opsA,stepO,zS,R.kd,qL]
theorem qyJ {P:Program} {b:Nat} {r:List RO} {K:Nx} {t:List AV} {h:List AObj} {d:Nat}  {xs:List X}:opsA P b (⟨some d,none,.sidx,xs⟩::r) K t h=(flags (evs t xs)∧okP (.sidx) (strips (evs t xs))∧opsA P b r K (zy d t (valP (.sidx) (strips (evs t xs)))) h):=by simp only [opsA,stepO,stepA,R.kd,qL]
theorem qyu {P:Program} {b:Nat} {r:List RO} {K:Nx} {t:List AV} {h:List AObj} {d n1 n2:Nat} {n3:Option Nat}  {xs:List X}:opsA P b (⟨some d,none,(.aidx n1 n2 n3),xs⟩::r) K t h=(flags (evs t xs)∧okP (.aidx n1 n2 n3) (strips (evs t xs))∧opsA P b r K (zy d t (valP (.aidx n1 n2 n3) (strips (evs t xs)))) h):=by simp only [opsA,stepO,stepA,R.kd,qL]
theorem qus {P:Program} {b:Nat} {r:List RO} {K:Nx} {t:List AV} {h:List AObj} {d:Nat}  {xs:List X} {j:Nat} {u:Bool}:opsA P b (⟨some d,some (j,u),.sidx,xs⟩::r) K t h=(qH (qO j t)=true∧(qv (qO j t) u=true→flags (evs t xs)∧okP (.sidx) (strips (evs t xs)))∧opsA P b r K (zy d t (.gd (qv (qO j t) u) (valP (.sidx) (strips (evs t xs))))) h):=by simp only [opsA,stepO,zS,R.kd,qL]
theorem qui {P:Program} {b:Nat} {r:List RO} {K:Nx} {t:List AV} {h:List AObj} {d n1 n2:Nat} {n3:Option Nat}  {xs:List X} {j:Nat} {u:Bool}:opsA P b (⟨some d,some (j,u),(.aidx n1 n2 n3),xs⟩::r) K t h=(qH (qO j t)=true∧(qv (qO j t) u=true→flags (evs t xs)∧okP (.aidx n1 n2 n3) (strips (evs t xs)))∧opsA P b r K (zy d t (.gd (qv (qO j t) u) (valP (.aidx n1 n2 n3) (strips (evs t xs))))) h):=by simp only [opsA,stepO,zS,R.kd,qL]
theorem qyL {P:Program} {b:Nat} {r:List RO} {K:Nx} {t:List AV} {h:List AObj} {d:Nat} {lo hi:Bool} {xs:List X}:opsA P b (⟨some d,none,.sslc lo hi,xs⟩::r) K t h=(flags (evs t xs)∧okP (.sslc lo hi) (strips (evs t xs))∧opsA P b r K (zy d t (valP (.sslc lo hi) (strips (evs t xs)))) h):=by simp only [opsA,stepO,stepA,R.kd,qL]
theorem quu {P:Program} {b:Nat} {r:List RO} {K:Nx} {t:List AV} {h:List AObj} {d:Nat} {lo hi:Bool} {xs:List X} {j:Nat} {u:Bool}:opsA P b (⟨some d,some (j,u),.sslc lo hi,xs⟩::r) K t h=(qH (qO j t)=true∧(qv (qO j t) u=true→flags (evs t xs)∧okP (.sslc lo hi) (strips (evs t xs)))∧opsA P b r K (zy d t (.gd (qv (qO j t) u) (valP (.sslc lo hi) (strips (evs t xs))))) h):=by simp only [opsA,stepO,zS,R.kd,qL]
theorem qCV {P:Program} {b:Nat} {r:List RO} {K:Nx} {t:List AV} {h:List AObj} {d:Nat} {m:Bool} {xs:List X}:opsA P b (⟨some d,none,.mm m,xs⟩::r) K t h=(flags (evs t xs)∧okP (.mm m) (strips (evs t xs))∧opsA P b r K (zy d t (valP (.mm m) (strips (evs t xs)))) h):=by simp only [opsA,stepO,stepA,R.kd,qL]
theorem qA9 {P:Program} {b:Nat} {r:List RO} {K:Nx} {t:List AV} {h:List AObj} {d:Nat} {m:Bool} {xs:List X} {j:Nat} {u:Bool}:opsA P b (⟨some d,some (j,u),.mm m,xs⟩::r) K t h=(qH (qO j t)=true∧(qv (qO j t) u=true→flags (evs t xs)∧okP (.mm m) (strips (evs t xs)))∧opsA P b r K (zy d t (.gd (qv (qO j t) u) (valP (.mm m) (strips (evs t xs))))) h):=by simp only [opsA,stepO,zS,R.kd,qL]
theorem qAY {P:Program} {b:Nat} {r:List RO} {K:Nx} {t:List AV} {h:List AObj} {d:Nat}  {xs:List X}:opsA P b (⟨some d,none,.len,xs⟩::r) K t h=(flags (evs t xs)∧okL h (.len) (strips (evs t xs))∧opsA P b r K (zy d t (valL h (.len) (strips (evs t xs)))) h):=by simp only [opsA,stepO,stepA,R.kd,qL]
theorem qzc {P:Program} {b:Nat} {r:List RO} {K:Nx} {t:List AV} {h:List AObj} {d:Nat}  {xs:List X} {j:Nat} {u:Bool}:opsA P b (⟨some d,some (j,u),.len,xs⟩::r) K t h=(qH (qO j t)=true∧(qv (qO j t) u=true→flags (evs t xs)∧okL h (.len) (strips (evs t xs)))∧opsA P b r K (zy d t (.gd (qv (qO j t) u) (valL h (.len) (strips (evs t xs))))) h):=by simp only [opsA,stepO,zS,R.kd,qL]
theorem qyD {P:Program} {b:Nat} {r:List RO} {K:Nx} {t:List AV} {h:List AObj} {d:Nat} {z:Nat} {xs:List X}:opsA P b (⟨some d,none,.idxA z,xs⟩::r) K t h=(flags (evs t xs)∧okL h (.idxA z) (strips (evs t xs))∧opsA P b r K (zy d t (valL h (.idxA z) (strips (evs t xs)))) h):=by simp only [opsA,stepO,stepA,R.kd,qL]
theorem qun {P:Program} {b:Nat} {r:List RO} {K:Nx} {t:List AV} {h:List AObj} {d:Nat} {z:Nat} {xs:List X} {j:Nat} {u:Bool}:opsA P b (⟨some d,some (j,u),.idxA z,xs⟩::r) K t h=(qH (qO j t)=true∧(qv (qO j t) u=true→flags (evs t xs)∧okL h (.idxA z) (strips (evs t xs)))∧opsA P b r K (zy d t (.gd (qv (qO j t) u) (valL h (.idxA z) (strips (evs t xs))))) h):=by simp only [opsA,stepO,zS,R.kd,qL]
theorem qql {P:Program} {b:Nat} {r:List RO} {K:Nx} {t:List AV} {h:List AObj} {d:Nat} {m z:Nat} {xs:List X}:opsA P b (⟨some d,none,.idxArr m z,xs⟩::r) K t h=(flags (evs t xs)∧okL h (.idxArr m z) (strips (evs t xs))∧opsA P b r K (zy d t (valL h (.idxArr m z) (strips (evs t xs)))) h):=by simp only [opsA,stepO,stepA,R.kd,qL]
theorem qne {P:Program} {b:Nat} {r:List RO} {K:Nx} {t:List AV} {h:List AObj} {d:Nat} {m z:Nat} {xs:List X} {j:Nat} {u:Bool}:opsA P b (⟨some d,some (j,u),.idxArr m z,xs⟩::r) K t h=(qH (qO j t)=true∧(qv (qO j t) u=true→flags (evs t xs)∧okL h (.idxArr m z) (strips (evs t xs)))∧opsA P b r K (zy d t (.gd (qv (qO j t) u) (valL h (.idxArr m z) (strips (evs t xs))))) h):=by simp only [opsA,stepO,zS,R.kd,qL]
theorem qyB {P:Program} {b:Nat} {r:List RO} {K:Nx} {t:List AV} {h:List AObj} {d:Nat} {p:Nat} {xs:List X}:opsA P b (⟨some d,none,.fldA p,xs⟩::r) K t h=(flags (evs t xs)∧okL h (.fldA p) (strips (evs t xs))∧opsA P b r K (zy d t (valL h (.fldA p) (strips (evs t xs)))) h):=by simp only [opsA,stepO,stepA,R.kd,qL]
theorem qum {P:Program} {b:Nat} {r:List RO} {K:Nx} {t:List AV} {h:List AObj} {d:Nat} {p:Nat} {xs:List X} {j:Nat} {u:Bool}:opsA P b (⟨some d,some (j,u),.fldA p,xs⟩::r) K t h=(qH (qO j t)=true∧(qv (qO j t) u=true→flags (evs t xs)∧okL h (.fldA p) (strips (evs t xs)))∧opsA P b r K (zy d t (.gd (qv (qO j t) u) (valL h (.fldA p) (strips (evs t xs))))) h):=by simp only [opsA,stepO,zS,R.kd,qL]
theorem qyF {P:Program} {b:Nat} {r:List RO} {K:Nx} {t:List AV} {h:List AObj} {d:Nat} {n:Option Nat} {xs:List X}:opsA P b (⟨some d,none,.load n,xs⟩::r) K t h=(flags (evs t xs)∧okL h (.load n) (strips (evs t xs))∧opsA P b r K (zy d t (valL h (.load n) (strips (evs t xs)))) h):=by simp only [opsA,stepO,stepA,R.kd,qL]
theorem qup {P:Program} {b:Nat} {r:List RO} {K:Nx} {t:List AV} {h:List AObj} {d:Nat} {n:Option Nat} {xs:List X} {j:Nat} {u:Bool}:opsA P b (⟨some d,some (j,u),.load n,xs⟩::r) K t h=(qH (qO j t)=true∧(qv (qO j t) u=true→flags (evs t xs)∧okL h (.load n) (strips (evs t xs)))∧opsA P b r K (zy d t (.gd (qv (qO j t) u) (valL h (.load n) (strips (evs t xs))))) h):=by simp only [opsA,stepO,zS,R.kd,qL]
theorem qqm {P:Program} {b:Nat} {r:List RO} {K:Nx} {t:List AV} {h:List AObj} {d:Nat}  {xs:List X}:opsA P b (⟨some d,none,.nilchk,xs⟩::r) K t h=(flags (evs t xs)∧okL h (.nilchk) (strips (evs t xs))∧opsA P b r K (zy d t (valL h (.nilchk) (strips (evs t xs)))) h):=by simp only [opsA,stepO,stepA,R.kd,qL]
theorem qnf {P:Program} {b:Nat} {r:List RO} {K:Nx} {t:List AV} {h:List AObj} {d:Nat}  {xs:List X} {j:Nat} {u:Bool}:opsA P b (⟨some d,some (j,u),.nilchk,xs⟩::r) K t h=(qH (qO j t)=true∧(qv (qO j t) u=true→flags (evs t xs)∧okL h (.nilchk) (strips (evs t xs)))∧opsA P b r K (zy d t (.gd (qv (qO j t) u) (valL h (.nilchk) (strips (evs t xs))))) h):=by simp only [opsA,stepO,zS,R.kd,qL]
theorem qA1 {P:Program} {b:Nat} {r:List RO} {K:Nx} {t:List AV} {h:List AObj} {d:Nat} {z:Nat} {lo hi:Bool} {xs:List X}:opsA P b (⟨some d,none,.slc z lo hi,xs⟩::r) K t h=(flags (evs t xs)∧okL h (.slc z lo hi) (strips (evs t xs))∧opsA P b r K (zy d t (valL h (.slc z lo hi) (strips (evs t xs)))) h):=by simp only [opsA,stepO,stepA,R.kd,qL]
theorem qzd {P:Program} {b:Nat} {r:List RO} {K:Nx} {t:List AV} {h:List AObj} {d:Nat} {z:Nat} {lo hi:Bool} {xs:List X} {j:Nat} {u:Bool}:opsA P b (⟨some d,some (j,u),.slc z lo hi,xs⟩::r) K t h=(qH (qO j t)=true∧(qv (qO j t) u=true→flags (evs t xs)∧okL h (.slc z lo hi) (strips (evs t xs)))∧opsA P b r K (zy d t (.gd (qv (qO j t) u) (valL h (.slc z lo hi) (strips (evs t xs))))) h):=by simp only [opsA,stepO,zS,R.kd,qL]
theorem qyI {P:Program} {b:Nat} {r:List RO} {K:Nx} {t:List AV} {h:List AObj} {d:Nat} {c x y:X}:opsA P b (⟨some d,none,.pick,[c,x,y]⟩::r) K t h=(qak (ev t c) (ev t x) (ev t y)∧opsA P b r K (zy d t (jx (ev t c) (ev t x) (ev t y))) h):=by simp only [opsA,stepO,stepA,R.kd,qL,evs]
theorem qur {P:Program} {b:Nat} {r:List RO} {K:Nx} {t:List AV} {h:List AObj} {d:Nat} {c x y:X} {j:Nat} {u:Bool}:opsA P b (⟨some d,some (j,u),.pick,[c,x,y]⟩::r) K t h=(qH (qO j t)=true∧(qv (qO j t) u=true→qak (ev t c) (ev t x) (ev t y))∧opsA P b r K (zy d t (.gd (qv (qO j t) u) (jx (ev t c) (ev t x) (ev t y)))) h):=by simp only [opsA,stepO,zS,R.kd,qL,evs]
theorem qyH {P:Program} {b:Nat} {r:List RO} {K:Nx} {t:List AV} {h:List AObj} {d:Option Nat} {j z:Nat} {ty:TypeId} {xs:List X}:opsA P b (⟨d,none,.nilo j z ty,xs⟩::r) K t h=(flags (evs t xs)∧effE b h (.nilo j z ty) (strips (evs t xs)) t d (opsA P b r K)):=by simp only [opsA,stepO,stepA,R.kd]
theorem qua {P:Program} {b:Nat} {r:List RO} {K:Nx} {t:List AV} {h:List AObj} {d:Option Nat} {j:Nat} {ty:TypeId} {z:List AV} {xs:List X}:opsA P b (⟨d,none,.alloc j ty z,xs⟩::r) K t h=(flags (evs t xs)∧effE b h (.alloc j ty z) (strips (evs t xs)) t d (opsA P b r K)):=by simp only [opsA,stepO,stepA,R.kd]
theorem qAU {P:Program} {b:Nat} {r:List RO} {K:Nx} {t:List AV} {h:List AObj} {d:Option Nat} {j:Nat} {ty:TypeId} {xs:List X}:opsA P b (⟨d,none,.box j ty,xs⟩::r) K t h=(flags (evs t xs)∧effE b h (.box j ty) (strips (evs t xs)) t d (opsA P b r K)):=by simp only [opsA,stepO,stepA,R.kd]
theorem qug {P:Program} {b:Nat} {r:List RO} {K:Nx} {t:List AV} {h:List AObj} {d:Option Nat} {n:Nat} {xs:List X}:opsA P b (⟨d,none,.store n,xs⟩::r) K t h=(flags (evs t xs)∧effE b h (.store n) (strips (evs t xs)) t d (opsA P b r K)):=by simp only [opsA,stepO,stepA,R.kd]
theorem quf {P:Program} {b:Nat} {r:List RO} {K:Nx} {t:List AV} {h:List AObj} {d:Option Nat} {j z m:Nat} {ty:TypeId} {zs:List AV} {xs:List X}:opsA P b (⟨d,none,.mkslc j z ty zs m,xs⟩::r) K t h=(flags (evs t xs)∧effE b h (.mkslc j z ty zs m) (strips (evs t xs)) t d (opsA P b r K)):=by simp only [opsA,stepO,stepA,R.kd]
theorem qyy {P:Program} {b:Nat} {r:List RO} {K:Nx} {t:List AV} {h:List AObj} {d:Option Nat} {j z n:Nat} {ty:TypeId} {zs:List AV} {ps:List (Nat×Nat)} {xs:List X}:opsA P b (⟨d,none,.bslc j z n ty zs ps,xs⟩::r) K t h=(flags (evs t xs)∧effE b h (.bslc j z n ty zs ps) (strips (evs t xs)) t d (opsA P b r K)):=by simp only [opsA,stepO,stepA,R.kd]
theorem qAR {P:Program} {b:Nat} {r:List RO} {K:Nx} {t:List AV} {h:List AObj} {d:Option Nat} {j z m:Nat} {ty:TypeId} {xs:List X}:opsA P b (⟨d,none,.app j z ty m,xs⟩::r) K t h=(flags (evs t xs)∧effE b h (.app j z ty m) (strips (evs t xs)) t d (opsA P b r K)):=by simp only [opsA,stepO,stepA,R.kd]
theorem qyv {P:Program} {b:Nat} {r:List RO} {K:Nx} {t:List AV} {h:List AObj} {d:Option Nat} {j:Nat} {ty:TypeId} {xs:List X}:opsA P b (⟨d,none,.apps j ty,xs⟩::r) K t h=(flags (evs t xs)∧effE b h (.apps j ty) (strips (evs t xs)) t d (opsA P b r K)):=by simp only [opsA,stepO,stepA,R.kd]
theorem qyz {P:Program} {b:Nat} {r:List RO} {K:Nx} {t:List AV} {h:List AObj} {d:Option Nat} {f:Nat} {p:Bool} {xs:List X}:opsA P b (⟨d,none,.call f p,xs⟩::r) K t h=qjN P f p (evs t xs) d (opsA P b r K) t h:=by simp only [opsA,stepO,stepA,R.kd]
theorem quk {P:Program} {b:Nat} {r:List RO} {K:Nx} {t:List AV} {h:List AObj} {d:Option Nat} {f:Nat} {p:Bool} {xs:List X} {j:Nat} {u:Bool}:opsA P b (⟨d,some (j,u),.call f p,xs⟩::r) K t h=(qH (qO j t)=true∧qjQ P f p (qv (qO j t) u) (evs t xs) d (opsA P b r K) t h):=by simp only [opsA,stepO,zS,R.kd]
theorem quc {P:Program} {b:Nat} {r:List RO} {K:Nx} {t:List AV} {h:List AObj} {d:Option Nat} {xs:List X}:opsA P b (⟨d,none,.callv,xs⟩::r) K t h=(flags (evs t xs)∧qbZ P (strips (evs t xs)) d (opsA P b r K) t h):=by simp only [opsA,stepO,stepA,R.kd]
theorem qAZ {P:Program} {b:Nat} {K:Nx} {t:List AV} {h:List AObj}:opsA P b [] K t h=K t h:=(rfl)
theorem qsD {t:List AV}:evs t []= []:=rfl
theorem qod {t:List AV} {x:X} {r:List X}:evs t (x::r)=ev t x::evs t r:=rfl
theorem qik:strips []= []:=rfl
theorem qfX {x:AV} {r:List AV}:strips (x::r)=x.strip::strips r:=rfl
theorem qkH:flags []=True:=rfl
theorem qhw {x:AV} {r:List AV}:flags (x::r)=(x.flag=true∧flags r):=rfl
theorem qjd {k l:IntKind} {a c:Int}:qav .add (.int k a) (.int l c)= .int k (k.wrap (a+c)):=rfl
theorem qiR {k l:IntKind} {a c:Int}:qad .add (.int k a) (.int l c)=(k=l):=rfl
theorem qjq {k l:IntKind} {a c:Int}:qav .sub (.int k a) (.int l c)= .int k (k.wrap (a-c)):=rfl
theorem qi4 {k l:IntKind} {a c:Int}:qad .sub (.int k a) (.int l c)=(k=l):=rfl
theorem qjk {k l:IntKind} {a c:Int}:qav .mul (.int k a) (.int l c)= .int k (k.wrap (a*c)):=rfl
theorem qiY {k l:IntKind} {a c:Int}:qad .mul (.int k a) (.int l c)=(k=l):=rfl
theorem qjm {k l:IntKind} {a c:Int}:qav .quo (.int k a) (.int l c)= .int k (k.wrap (a.tdiv c)):=rfl
theorem qi0 {k l:IntKind} {a c:Int}:qad .quo (.int k a) (.int l c)=(k=l∧c≠0):=rfl
theorem qjn {k l:IntKind} {a c:Int}:qav .rem (.int k a) (.int l c)= .int k (a.tmod c):=rfl
theorem qi1 {k l:IntKind} {a c:Int}:qad .rem (.int k a) (.int l c)=(k=l∧c≠0):=rfl
theorem qjo {k l:IntKind} {a c:Int}:qav .shl (.int k a) (.int l c)= .int k (qAF k a c):=rfl
theorem qi2 {k l:IntKind} {a c:Int}:qad .shl (.int k a) (.int l c)=(0≤c):=rfl
theorem qjp {k l:IntKind} {a c:Int}:qav .shr (.int k a) (.int l c)= .int k (qzm k a c):=rfl
theorem qi3 {k l:IntKind} {a c:Int}:qad .shr (.int k a) (.int l c)=(0≤c):=rfl
theorem qjf {k l:IntKind} {a c:Int}:qav .eql (.int k a) (.int l c)= .bool (decide (a=c)):=rfl
theorem qiT {k l:IntKind} {a c:Int}:qad .eql (.int k a) (.int l c)=(k=l):=rfl
theorem qjl {k l:IntKind} {a c:Int}:qav .neq (.int k a) (.int l c)= .bool (!decide (a=c)):=rfl
theorem qiZ {k l:IntKind} {a c:Int}:qad .neq (.int k a) (.int l c)=(k=l):=rfl
theorem qjj {k l:IntKind} {a c:Int}:qav .lss (.int k a) (.int l c)= .bool (decide (a<c)):=rfl
theorem qiX {k l:IntKind} {a c:Int}:qad .lss (.int k a) (.int l c)=(k=l):=rfl
theorem qji {k l:IntKind} {a c:Int}:qav .leq (.int k a) (.int l c)= .bool (decide (a≤c)):=rfl
theorem qiW {k l:IntKind} {a c:Int}:qad .leq (.int k a) (.int l c)=(k=l):=rfl
theorem qjh {k l:IntKind} {a c:Int}:qav .gtr (.int k a) (.int l c)= .bool (decide (c<a)):=rfl
theorem qiV {k l:IntKind} {a c:Int}:qad .gtr (.int k a) (.int l c)=(k=l):=rfl
theorem qjg {k l:IntKind} {a c:Int}:qav .geq (.int k a) (.int l c)= .bool (decide (c≤a)):=rfl
theorem qiU {k l:IntKind} {a c:Int}:qad .geq (.int k a) (.int l c)=(k=l):=rfl
theorem qje {k l:IntKind} {a c:Int}:qav .and (.int k a) (.int l c)= .int k (qrq k a c):=rfl
theorem qiS {k l:IntKind} {a c:Int}:qad .and (.int k a) (.int l c)=(k=l):=rfl
theorem qnF {k l:IntKind} {a c:Int}:qav .or (.int k a) (.int l c)= .int k (orK k a c):=rfl
theorem qnE {k l:IntKind} {a c:Int}:qad .or (.int k a) (.int l c)=(k=l):=rfl
theorem qjr {k l:IntKind} {a c:Int}:qav .xor (.int k a) (.int l c)= .int k (qC3 k a c):=rfl
theorem qi5 {k l:IntKind} {a c:Int}:qad .xor (.int k a) (.int l c)=(k=l):=rfl
theorem qd4 {k l:IntKind} {a c:Int}:qav .andNot (.int k a) (.int l c)= .int k (qe2 k a c):=rfl
theorem qd3 {k l:IntKind} {a c:Int}:qad .andNot (.int k a) (.int l c)=(k=l):=rfl
theorem qjs {s u:List UInt8}:qav .add (.str s) (.str u)= .str (s++u):=rfl
theorem qi6 {s u:List UInt8}:qad .add (.str s) (.str u)=(s.length+u.length≤9223372036854775807):=rfl
theorem qjt {s u:List UInt8}:qav .eql (.str s) (.str u)= .bool (decide (s=u)):=rfl
theorem qi7 {s u:List UInt8}:qad .eql (.str s) (.str u)=True:=rfl
theorem qjy {s u:List UInt8}:qav .neq (.str s) (.str u)= .bool (!decide (s=u)):=rfl
theorem qjc {s u:List UInt8}:qad .neq (.str s) (.str u)=True:=rfl
theorem qjx {s u:List UInt8}:qav .lss (.str s) (.str u)= .bool (Op.bytesLess s u):=rfl
theorem qjb {s u:List UInt8}:qad .lss (.str s) (.str u)=True:=rfl
theorem qjw {s u:List UInt8}:qav .leq (.str s) (.str u)= .bool (Op.bytesLess s u||decide (s=u)):=rfl
theorem qja {s u:List UInt8}:qad .leq (.str s) (.str u)=True:=rfl
theorem qjv {s u:List UInt8}:qav .gtr (.str s) (.str u)= .bool (!(Op.bytesLess s u||decide (s=u))):=rfl
theorem qi9 {s u:List UInt8}:qad .gtr (.str s) (.str u)=True:=rfl
theorem qju {s u:List UInt8}:qav .geq (.str s) (.str u)= .bool (!Op.bytesLess s u):=rfl
theorem qi8 {s u:List UInt8}:qad .geq (.str s) (.str u)=True:=rfl
theorem qmY {n p q:Bool}:valP (.bool n) [.bool p,.bool q]= .bool (n !=(p==q)):=rfl
theorem qo5 {n p q:Bool}:okP (.bool n) [.bool p,.bool q]=True:=rfl
theorem qqh {p:Bool}:valP (.un .not) [.bool p]= .bool (!p):=rfl
theorem qto {p:Bool}:okP (.un .not) [.bool p]=True:=rfl
theorem qqg {k:IntKind} {n:Int}:valP (.un .neg) [.int k n]= .int k (k.wrap (0-n)):=rfl
theorem qtn {k:IntKind} {n:Int}:okP (.un .neg) [.int k n]=True:=rfl
theorem qmZ {k l:IntKind} {n:Int}:valP (.conv k) [.int l n]= .int k (k.wrap n):=rfl
theorem qo6 {k l:IntKind} {n:Int}:okP (.conv k) [.int l n]=True:=rfl
theorem qcU {n:Bool} {x:AV}:valP (.isnil .ptr n) [x]= .bool (n !=(qY .ptr x).getD false):=rfl
theorem qdC {n:Bool} {x:AV}:okP (.isnil .ptr n) [x]=((qY .ptr x).isSome=true):=rfl
theorem qcK {n:Bool} {x:AV}:valP (.isnil .func n) [x]= .bool (n !=(qY .func x).getD false):=rfl
theorem qcQ {n:Bool} {x:AV}:okP (.isnil .func n) [x]=((qY .func x).isSome=true):=rfl
theorem qb2 {n:Bool} {x:AV}:valP (.isnil .iface n) [x]= .bool (n !=(qY .iface x).getD false):=rfl
theorem qcD {n:Bool} {x:AV}:okP (.isnil .iface n) [x]=((qY .iface x).isSome=true):=rfl
theorem qdR {n:Bool} {m:Nat} {f:Nat→List AV}:valP (.isnil .slice n) [.sl m f]=if m=0 then .anyb else .bool (n !=false):=rfl
theorem qeB {n:Bool} {m:Nat} {f:Nat→List AV}:okP (.isnil .slice n) [.sl m f]=True:=rfl
theorem qdQ {n:Bool}:valP (.isnil .slice n) [.nl]= .bool (n !=true):=rfl
theorem qeA {n:Bool}:okP (.isnil .slice n) [.nl]=True:=by simp [okP,qY]
theorem qhd (A B:Nx) (t:List AV) (h:List AObj):qfh .anyb A B t h=(A t h∧B t h):=rfl
theorem qid:AV.strip .anyb= .anyb:=rfl
theorem qkA:AV.flag .anyb=true:=rfl
theorem qhX:AV.solid .anyb=true:=rfl
theorem qg7:AV.cells .anyb= [.anyb]:=rfl
theorem qlf:qY .ptr .nilp=some true:=rfl
theorem qhD:qY .func .nilfn=some true:=rfl
theorem qhE:qY .iface .nilif=some true:=rfl
theorem qtd:qY .slice .nl=some true:=rfl
theorem qtc {c:List AV}:qY .ptr (.ip c)=some false:=rfl
theorem qtb {f:Fn} {a c:List AV}:qY .func (.fn f a c)=some false:=rfl
theorem qoT:qY .iface .ifc=some false:=rfl
theorem qqd {ks:List AK} {n:Bool} {x y:List AV}:valP (.aeq ks n) [.agg x,.agg y]= .bool (n !=(qX ks x y).getD false):=rfl
theorem qti {ks:List AK} {n:Bool} {x y:List AV}:okP (.aeq ks n) [.agg x,.agg y]=((qX ks x y).isSome=true):=rfl
theorem qqf {p:Nat} {n:Option Nat} {c:List AV}:valP (.fld p n) [.agg c]=cut c p n:=rfl
theorem qtk {p:Nat} {n:Option Nat} {c:List AV}:okP (.fld p n) [.agg c]=jb c p n:=rfl
theorem qsf {p:Nat} {c:List AV}:jb c p none=(p<c.length):=rfl
theorem qsg {p n:Nat} {c:List AV}:jb c p (some n)=(p+n≤c.length):=rfl
theorem qqe {i:Nat} {c:List AV}:valP (.ext i) [.tup c]=(c[i]?).getD .undef:=rfl
theorem qtj {i:Nat} {c:List AV}:okP (.ext i) [.tup c]=(i<c.length):=rfl
theorem qiy {z:List AV} {ps:List (Nat×Nat)} {vs:List AV}:valP (.build z ps) vs= .agg (qaf z ps vs):=by cases vs<;>rfl
theorem qlr {z:List AV} {ps:List (Nat×Nat)} {vs:List AV}:okP (.build z ps) vs=kU z.length ps vs:=by cases vs<;>rfl
theorem qho {n:Nat}:kU n [] []=True:=rfl
theorem qfl {m p n:Nat} {ps:List (Nat×Nat)} {v:AV} {vs:List AV}:kU m ((p,n)::ps) (v::vs)=(v.solid=true∧v.cells.length=n∧p+n≤m∧kU m ps vs):=rfl
theorem qkw {z:List AV} {ps:List (Nat×Nat)}:qaf z ps []=z:=by cases ps<;>rfl
theorem qhn {z:List AV} {p n:Nat} {ps:List (Nat×Nat)} {v:AV} {vs:List AV}:qaf z ((p,n)::ps) (v::vs)=qaf (z.take p++v.cells++z.drop (p+n)) ps vs:=rfl
theorem qm5 {f:Fn} {n:Nat} {vs:List AV}:valP (.mkfn f n) vs= .fn f (vs.take n) (vs.drop n):=by cases vs<;>rfl
theorem qo9 {f:Fn} {n:Nat} {vs:List AV}:okP (.mkfn f n) vs=(n≤vs.length):=by cases vs<;>rfl
theorem qm6 {s:List UInt8} {k:IntKind} {i:Int}:valP .sidx [.str s,.int k i]= .int .u8 ((s[i.toNat]?).getD 0).toNat:=rfl
theorem qmX {cs:List AV} {k:IntKind} {i:Int} {n1 n2:Nat} {n3:Option Nat}:valP (.aidx n1 n2 n3) [.agg cs,.int k i]=cut cs (i.toNat*n2) n3:=rfl
theorem qo4 {cs:List AV} {k:IntKind} {i:Int} {n1 n2:Nat} {n3:Option Nat}:okP (.aidx n1 n2 n3) [.agg cs,.int k i]=((0≤i∧i<n1)∧jb cs (i.toNat*n2) n3):=rfl
theorem qpa {s:List UInt8} {k:IntKind} {i:Int}:okP .sidx [.str s,.int k i]=(0≤i∧i<s.length):=rfl
theorem qiA {s:List UInt8} {k m:IntKind} {a c:Int}:valP (.sslc true true) [.str s,.int k a,.int m c]= .str ((s.drop (a:Int).toNat).take ((c:Int).toNat-(a:Int).toNat)):=by simp [valP,loB,hiB]
theorem qlt {s:List UInt8} {k m:IntKind} {a c:Int}:okP (.sslc true true) [.str s,.int k a,.int m c]=(0≤(a:Int)∧(a:Int)≤c∧c≤(s.length:Int)):=by simp [okP,loB,hiB,qar]
theorem qix {g:List AObj} {z n:Nat} {f:Nat→List AV} {k m:IntKind} {a c:Int}:valL g (.slc z true true) [.sl n f,.int k a,.int m c]= .sl ((c:Int).toNat-(a:Int).toNat) (fun i=>f ((a:Int).toNat+i)):=by simp [valL,loB,hiB]
theorem qlq {g:List AObj} {z n:Nat} {f:Nat→List AV} {k m:IntKind} {a c:Int}:okL g (.slc z true true) [.sl n f,.int k a,.int m c]=((0≤(a:Int)∧(a:Int)≤c∧c≤(n:Int))∧(0<n→(f 0).length=z)):=by simp [okL,loB,hiB,qar,and_assoc]
theorem qiv {g:List AObj} {z w v y p n:Nat} {k m:IntKind} {a c:Int}:valL g (.slc z true true) [.osl w v y p n,.int k a,.int m c]= .osl w v y (p+(a:Int).toNat*y) ((c:Int).toNat-(a:Int).toNat):=by simp [valL,loB,hiB]
theorem qlp {g:List AObj} {z w v y p n:Nat} {k m:IntKind} {a c:Int}:okL g (.slc z true true) [.osl w v y p n,.int k a,.int m c]=((0≤(a:Int)∧(a:Int)≤c∧c≤(n:Int))∧y=z∧zA g w v=true∧((a:Int)=0∨(a:Int)<n)):=by simp [okL,loB,hiB,qar,and_assoc]
theorem qm9 {s:List UInt8} {k:IntKind} {a:Int}:valP (.sslc true false) [.str s,.int k a]= .str ((s.drop (a:Int).toNat).take (((s.length:Int):Int).toNat-(a:Int).toNat)):=by simp [valP,loB,hiB]
theorem qpd {s:List UInt8} {k:IntKind} {a:Int}:okP (.sslc true false) [.str s,.int k a]=(0≤(a:Int)∧(a:Int)≤(s.length:Int)∧(s.length:Int)≤(s.length:Int)):=by simp [okP,loB,hiB,qar]
theorem qmW {g:List AObj} {z n:Nat} {f:Nat→List AV} {k:IntKind} {a:Int}:valL g (.slc z true false) [.sl n f,.int k a]= .sl (((n:Int):Int).toNat-(a:Int).toNat) (fun i=>f ((a:Int).toNat+i)):=by simp [valL,loB,hiB]
theorem qo3 {g:List AObj} {z n:Nat} {f:Nat→List AV} {k:IntKind} {a:Int}:okL g (.slc z true false) [.sl n f,.int k a]=((0≤(a:Int)∧(a:Int)≤(n:Int)∧(n:Int)≤(n:Int))∧(0<n→(f 0).length=z)):=by simp [okL,loB,hiB,qar,and_assoc]
theorem qmU {g:List AObj} {z w v y p n:Nat} {k:IntKind} {a:Int}:valL g (.slc z true false) [.osl w v y p n,.int k a]= .osl w v y (p+(a:Int).toNat*y) (((n:Int):Int).toNat-(a:Int).toNat):=by simp [valL,loB,hiB]
theorem qo1 {g:List AObj} {z w v y p n:Nat} {k:IntKind} {a:Int}:okL g (.slc z true false) [.osl w v y p n,.int k a]=((0≤(a:Int)∧(a:Int)≤(n:Int)∧(n:Int)≤(n:Int))∧y=z∧zA g w v=true∧((a:Int)=0∨(a:Int)<n)):=by simp [okL,loB,hiB,qar,and_assoc]
theorem qm8 {s:List UInt8} {k:IntKind} {c:Int}:valP (.sslc false true) [.str s,.int k c]= .str ((s.drop (0:Int).toNat).take ((c:Int).toNat-(0:Int).toNat)):=by simp [valP,loB,hiB]
theorem qpc {s:List UInt8} {k:IntKind} {c:Int}:okP (.sslc false true) [.str s,.int k c]=(0≤(0:Int)∧(0:Int)≤c∧c≤(s.length:Int)):=by simp [okP,loB,hiB,qar]
theorem qmV {g:List AObj} {z n:Nat} {f:Nat→List AV} {k:IntKind} {c:Int}:valL g (.slc z false true) [.sl n f,.int k c]= .sl ((c:Int).toNat-(0:Int).toNat) (fun i=>f ((0:Int).toNat+i)):=by simp [valL,loB,hiB]
theorem qo2 {g:List AObj} {z n:Nat} {f:Nat→List AV} {k:IntKind} {c:Int}:okL g (.slc z false true) [.sl n f,.int k c]=((0≤(0:Int)∧(0:Int)≤c∧c≤(n:Int))∧(0<n→(f 0).length=z)):=by simp [okL,loB,hiB,qar,and_assoc]
theorem qmT {g:List AObj} {z w v y p n:Nat} {k:IntKind} {c:Int}:valL g (.slc z false true) [.osl w v y p n,.int k c]= .osl w v y (p+(0:Int).toNat*y) ((c:Int).toNat-(0:Int).toNat):=by simp [valL,loB,hiB]
theorem qo0 {g:List AObj} {z w v y p n:Nat} {k:IntKind} {c:Int}:okL g (.slc z false true) [.osl w v y p n,.int k c]=((0≤(0:Int)∧(0:Int)≤c∧c≤(n:Int))∧y=z∧zA g w v=true∧((0:Int)=0∨(0:Int)<n)):=by simp [okL,loB,hiB,qar,and_assoc]
theorem qqi {s:List UInt8}  :valP (.sslc false false) [.str s]= .str ((s.drop (0:Int).toNat).take (((s.length:Int):Int).toNat-(0:Int).toNat)):=by simp [valP,loB,hiB]
theorem qtp {s:List UInt8}  :okP (.sslc false false) [.str s]=(0≤(0:Int)∧(0:Int)≤(s.length:Int)∧(s.length:Int)≤(s.length:Int)):=by simp [okP,loB,hiB,qar]
theorem qqc {g:List AObj} {z n:Nat} {f:Nat→List AV}  :valL g (.slc z false false) [.sl n f]= .sl (((n:Int):Int).toNat-(0:Int).toNat) (fun i=>f ((0:Int).toNat+i)):=by simp [valL,loB,hiB]
theorem qth {g:List AObj} {z n:Nat} {f:Nat→List AV}  :okL g (.slc z false false) [.sl n f]=((0≤(0:Int)∧(0:Int)≤(n:Int)∧(n:Int)≤(n:Int))∧(0<n→(f 0).length=z)):=by simp [okL,loB,hiB,qar,and_assoc]
theorem qqb {g:List AObj} {z w v y p n:Nat}  :valL g (.slc z false false) [.osl w v y p n]= .osl w v y (p+(0:Int).toNat*y) (((n:Int):Int).toNat-(0:Int).toNat):=by simp [valL,loB,hiB]
theorem qtg {g:List AObj} {z w v y p n:Nat}  :okL g (.slc z false false) [.osl w v y p n]=((0≤(0:Int)∧(0:Int)≤(n:Int)∧(n:Int)≤(n:Int))∧y=z∧zA g w v=true∧((0:Int)=0∨(0:Int)<n)):=by simp [okL,loB,hiB,qar,and_assoc]
theorem qm1 {k l:IntKind} {a c:Int}:valP (.mm true) [.int k a,.int l c]= .int k (max a c):=rfl
theorem qm3 {k l:IntKind} {a c:Int}:valP (.mm false) [.int k a,.int l c]= .int k (min a c):=rfl
theorem qm2 {k l m:IntKind} {a c e:Int}:valP (.mm true) [.int k a,.int l c,.int m e]= .int k (max (max a c) e):=rfl
theorem qm4 {k l m:IntKind} {a c e:Int}:valP (.mm false) [.int k a,.int l c,.int m e]= .int k (min (min a c) e):=rfl
theorem qtl {x:Bool} {k l:IntKind} {a c:Int}:okP (.mm x) [.int k a,.int l c]=True:=by simp [okP,qar]
theorem qtm {x:Bool} {k l m:IntKind} {a c e:Int}:okP (.mm x) [.int k a,.int l c,.int m e]=True:=by simp [okP,qar]
theorem qiu {g:List AObj} {n:Nat} {f:Nat→List AV}:valL g .len [.sl n f]= .int .i64 n:=rfl
theorem qlo {g:List AObj} {n:Nat} {f:Nat→List AV}:okL g .len [.sl n f]=True:=rfl
theorem qit {g:List AObj}:valL g .len [.nl]= .int .i64 0:=rfl
theorem qln {g:List AObj}:okL g .len [.nl]=True:=rfl
theorem qm7 {s:List UInt8}:valP .slen [.str s]= .int .i64 s.length:=rfl
theorem qpb {s:List UInt8}:okP .slen [.str s]=True:=rfl
theorem qf4 {g:List AObj} {k v z p n:Nat}:valL g .len [.osl k v z p n]= .int .i64 n:=rfl
theorem qhK {g:List AObj} {k v z p n:Nat}:okL g .len [.osl k v z p n]=(zA g k v=true):=rfl
theorem qis {g:List AObj} {z n:Nat} {f:Nat→List AV} {k:IntKind} {i:Int}:valL g (.idxA z) [.sl n f,.int k i]= .ip (f i.toNat):=rfl
theorem qlm {g:List AObj} {z n:Nat} {f:Nat→List AV} {k:IntKind} {i:Int}:okL g (.idxA z) [.sl n f,.int k i]=((0≤i∧i<n)∧(f i.toNat).length=z):=rfl
theorem qf3 {g:List AObj} {z q v y p n:Nat} {k:IntKind} {i:Int}:valL g (.idxA z) [.osl q v y p n,.int k i]= .op q v (p+i.toNat*y):=rfl
theorem qhJ {g:List AObj} {z q v y p n:Nat} {k:IntKind} {i:Int}:okL g (.idxA z) [.osl q v y p n,.int k i]=((0≤i∧i<n)∧y=z∧(cellsOf g q v).isSome=true):=rfl
theorem qio {g:List AObj} {m z:Nat} {c:List AV} {k:IntKind} {i:Int}:valL g (.idxArr m z) [.ip c,.int k i]= .ip ((c.drop (i.toNat*z)).take z):=rfl
theorem qlh {g:List AObj} {m z:Nat} {c:List AV} {k:IntKind} {i:Int}:okL g (.idxArr m z) [.ip c,.int k i]=((0≤i∧i<m)∧c.length=m*z):=rfl
theorem qip {g:List AObj} {m z q v p:Nat} {k:IntKind} {i:Int}:valL g (.idxArr m z) [.op q v p,.int k i]= .op q v (p+i.toNat*z):=rfl
theorem qli {g:List AObj} {m z q v p:Nat} {k:IntKind} {i:Int}:okL g (.idxArr m z) [.op q v p,.int k i]=((0≤i∧i<m)∧(cellsOf g q v).isSome=true):=rfl
theorem qiq {g:List AObj} {p:Nat} {c:List AV}:valL g (.fldA p) [.ip c]= .ip (c.drop p):=rfl
theorem qlk {g:List AObj} {p:Nat} {c:List AV}:okL g (.fldA p) [.ip c]=(p<c.length):=rfl
theorem qir {g:List AObj} {p q v o:Nat}:valL g (.fldA p) [.op q v o]= .op q v (o+p):=rfl
theorem qll {g:List AObj} {p q v o:Nat}:okL g (.fldA p) [.op q v o]=((cellsOf g q v).isSome=true):=rfl
theorem qmO {g:List AObj} {n:Option Nat} {c:List AV}:valL g (.load n) [.ip c]=cut c 0 n:=rfl
theorem qoV {g:List AObj} {n:Option Nat} {c:List AV}:okL g (.load n) [.ip c]=jb c 0 n:=rfl
theorem qmP {g:List AObj} {n:Option Nat} {q v p:Nat}:valL g (.load n) [.op q v p]=cut ((cellsOf g q v).getD []) p n:=rfl
theorem qoW {g:List AObj} {n:Option Nat} {q v p:Nat}:okL g (.load n) [.op q v p]=((cellsOf g q v).isSome=true∧jb ((cellsOf g q v).getD []) p n):=rfl
theorem qmR {g:List AObj} {c:List AV}:valL g .nilchk [.ip c]= .ip c:=rfl
theorem qoY {g:List AObj} {c:List AV}:okL g .nilchk [.ip c]=True:=rfl
theorem qmS {g:List AObj} {q v p:Nat}:valL g .nilchk [.op q v p]= .op q v p:=rfl
theorem qoZ {g:List AObj} {q v p:Nat}:okL g .nilchk [.op q v p]=((cellsOf g q v).isSome=true):=rfl
theorem qmQ {g:List AObj} {f:Fn} {a c:List AV}:valL g .nilchk [.fn f a c]= .fn f a c:=rfl
theorem qoX {g:List AObj} {f:Nat} {a c:List AV}:okL g .nilchk [.fn (.func f) a c]=True:=rfl
theorem qn0 {c:List AV} {p:Nat}:cut c p none=(c[p]?).getD .undef:=rfl
theorem qn1 {c:List AV} {p n:Nat}:cut c p (some n)= .agg ((c.drop p).take n):=rfl
theorem qoG {b w:Bool}:qv (.bool b) w=(b==w):=rfl
theorem qkX {g b w:Bool}:qv (.gd g (.bool b)) w=(g&&(b==w)):=rfl
theorem qkY {b:Bool}:qH (.bool b)=true:=rfl
theorem qhy {g b:Bool}:qH (.gd g (.bool b))=true:=rfl
theorem qpf {c:Bool} {x y:AV}:qak (.bool c) x y=((c=true→x.flag=true)∧(c=false→y.flag=true)):=rfl
theorem qlB {g c:Bool} {x y:AV}:qak (.gd g (.bool c)) x y=(g=true∧(c=true→x.flag=true)∧(c=false→y.flag=true)):=rfl
theorem qlC {c p q:Bool}:jx (.bool c) (.bool p) (.bool q)= .bool ((c&&p)||(!c&&q)):=rfl
theorem qlI {c p q gc:Bool}:jx (.gd gc (.bool c)) (.bool p) (.bool q)= .bool ((c&&p)||(!c&&q)):=rfl
theorem qlD {c p q gq:Bool}:jx (.bool c) (.bool p) (.gd gq (.bool q))= .bool ((c&&p)||(!c&&q)):=rfl
theorem qlJ {c p q gq gc:Bool}:jx (.gd gc (.bool c)) (.bool p) (.gd gq (.bool q))= .bool ((c&&p)||(!c&&q)):=rfl
theorem qlE {c p q gp:Bool}:jx (.bool c) (.gd gp (.bool p)) (.bool q)= .bool ((c&&p)||(!c&&q)):=rfl
theorem qlK {c p q gp gc:Bool}:jx (.gd gc (.bool c)) (.gd gp (.bool p)) (.bool q)= .bool ((c&&p)||(!c&&q)):=rfl
theorem qlF {c p q gp gq:Bool}:jx (.bool c) (.gd gp (.bool p)) (.gd gq (.bool q))= .bool ((c&&p)||(!c&&q)):=rfl
theorem qlL {c p q gp gq gc:Bool}:jx (.gd gc (.bool c)) (.gd gp (.bool p)) (.gd gq (.bool q))= .bool ((c&&p)||(!c&&q)):=rfl
theorem qvT {P:Program} {b:Nat} {Q:Ex→Nx} {t:List AV} {h:List AObj}:qW P b .skip Q t h=Q .normal t h:=(rfl)
theorem qzD {P:Program} {b:Nat} {Q:Ex→Nx} {t:List AV} {h:List AObj} {l:List RO}:qW P b (.ops l) Q t h=opsA P b l (Q .normal) t h:=(rfl)
theorem qzF {P:Program} {b:Nat} {Q:Ex→Nx} {t:List AV} {h:List AObj} {x y:C}:qW P b (.seq x y) Q t h=qW P b x (Ex.andThen (qW P b y Q) Q) t h:=(rfl)
theorem qvR {P:Program} {b:Nat} {Q:Ex→Nx} {t:List AV} {h:List AObj} {c:X} {x y:C}:qW P b (.cond c x y) Q t h=qfh (ev t c) (qW P b x Q) (qW P b y Q) t h:=(rfl)
theorem qrU {P:Program} {b:Nat} {Q:Ex→Nx} {t:List AV} {h:List AObj} {i:Nat} {x:C}:qW P b (.block i x) Q t h=qW P b x (Ex.inBlock i Q) t h:=(rfl)
theorem qvS {P:Program} {b:Nat} {Q:Ex→Nx} {t:List AV} {h:List AObj} {i:Nat}:qW P b (.exit i) Q t h=Q (.exit i) t h:=(rfl)
theorem qzE {P:Program} {b:Nat} {Q:Ex→Nx} {t:List AV} {h:List AObj}:qW P b .ret Q t h=Q .ret t h:=(rfl)
theorem qBX {K:Nx} {Q:Ex→Nx} {t:List AV} {h:List AObj}:Ex.andThen K Q .normal t h=K t h:=(rfl)
theorem qBW {K:Nx} {Q:Ex→Nx} {t:List AV} {h:List AObj} {i:Nat}:Ex.andThen K Q (.exit i) t h=Q (.exit i) t h:=(rfl)
theorem qBY {K:Nx} {Q:Ex→Nx} {t:List AV} {h:List AObj}:Ex.andThen K Q .ret t h=Q .ret t h:=(rfl)
theorem qCp {i:Nat} {Q:Ex→Nx} {t:List AV} {h:List AObj}:Ex.inBlock i Q .normal t h=Q .normal t h:=(rfl)
theorem qCq {i:Nat} {Q:Ex→Nx} {t:List AV} {h:List AObj}:Ex.inBlock i Q .ret t h=Q .ret t h:=(rfl)
theorem qCo {i j:Nat} {Q:Ex→Nx} {t:List AV} {h:List AObj}:Ex.inBlock i Q (.exit j) t h=if j=i then Q .normal t h else Q (.exit j) t h:=(rfl)
end AF
end
section
namespace AF
open Go
attribute [go_sem] qyu qui qmX qo4 qxq qx6 qxr qx7 qxs qx8 qxt qx9 qxu qya qxv qyb qxw qyc qxx qyd qsX qtQ qoE qpC qCf qCe qie qkB qhY qg8 qmC qom qmi qj0 qmG qoq qmm qj4 qp2 qsK qpP qnU qmE qoo qmk qj2 qmA qok qmg qmH qor qj5 qpZ qsH qpM qnR qp1 qsJ qpO qnT qih qkE qh1 qhb qp0 qsI qpN qnS qpX qsF qpL qnQ qmI qos qmn qj6 qfS qhr qfG qfd qmB qol qmh qjZ qfT qhs qfH qfe qfW qhv qjY qpY qsG qCW qBa qAT qy9 qyx quj qCX qBb qyA qul qud qqp qAQ qy7 qAX qzb qAW qza qub qqn qyG quq qyK qut qyJ qus qyL quu qCV qA9 qAY qzc qyD qun qql qne qyB qum qyF qup qqm qnf qA1 qzd qyI qur qyH qua qAU qug quf qyy qAR qyv qyz quk quc qAZ qsD qod qik qfX qkH qhw qjd qiR qjq qi4 qjk qiY qjm qi0 qjn qi1 qjo qi2 qjp qi3 qjf qiT qjl qiZ qjj qiX qji qiW qjh qiV qjg qiU qje qiS qnF qnE qjr qi5 qd4 qd3 qjs qi6 qjt qi7 qjy qjc qjx qjb qjw qja qjv qi9 qju qi8 qmY qo5 qqh qto qqg qtn qmZ qo6 qcU qdC qcK qcQ qb2 qcD qdR qeB qdQ qeA qhd qid qkA qhX qg7 qlf qhD qhE qtd qtc qtb qoT qqd qti qqf qtk qsf qsg qqe qtj qiy qlr qho qfl qkw qhn qm5 qo9 qm6 qpa qiA qlt qix qlq qiv qlp qm9 qpd qmW qo3 qmU qo1 qm8 qpc qmV qo2 qmT qo0 qqi qtp qqc qth qqb qtg qm1 qm3 qm2 qm4 qtl qtm qiu qlo qit qln qm7 qpb qf4 qhK qis qlm qf3 qhJ qio qlh qip qli qiq qlk qir qll qmO qoV qmP qoW qmR qoY qmS qoZ qmQ qoX qn0 qn1 qoG qkX qkY qhy qpf qlB qlC qlI qlD qlJ qlE qlK qlF qlL qvT qzD qzF qvR qrU qvS qzE qBX qBW qBY qCp qCq qCo
attribute [go_sem] and_true true_and List.drop_zero List.drop_succ_cons List.getElem?_cons_zero List.getElem?_cons_succ Option.getD_some List.length_cons List.length_nil Int.toNat_natCast beq_true imp_self and_self implies_true Bool.and_true Bool.and_false Bool.or_false decide_eq_true_eq Bool.and_eq_true
theorem ql6 (t:List AV) (h:List AObj):kf t h []=True:=rfl
theorem ql7 (n:Nat) (l:List RV) (t:List AV) (h:List AObj):kf t h (.tmp n::l)=kf t h l:=by simp [kf,RV.ok]
theorem qhU (t:List AV) (h:List AObj):zX t h []= []:=rfl
theorem qhV (n:Nat) (l:List RV) (t:List AV) (h:List AObj):zX t h (.tmp n::l)=qO n t::zX t h l:=rfl
theorem qpy (v:AV):qhR [v]=v:=rfl
theorem qpz (v u:AV) (l:List AV):qhR (v::u::l)= .tup (v::u::l):=rfl
theorem qhe (c:Bool) (A B:Nx) (t:List AV) (h:List AObj):qfh (.bool c) A B t h=((c=true→A t h)∧(c=false→B t h)):=rfl
theorem qh {n:Int} (h0: -9223372036854775808≤n) (h1:n≤9223372036854775807):IntKind.i64.wrap n=n:=by
 have e1:(2:Int)^IntKind.bits IntKind.i64=18446744073709551616:=rfl
 have e2:(2:Int)^(IntKind.bits IntKind.i64-1)=9223372036854775808:=rfl
 have e3:IntKind.signed IntKind.i64=true:=rfl
 unfold IntKind.wrap
 rw [e1,e2,e3]
 simp only [Bool.true_and,decide_eq_true_eq]
 split<;>omega
theorem qkO {rs:List RV} {h0:List AObj} {K:AV→List AObj→Prop} {t:List AV} {hh tl:List AObj} {r:AV} (e:hh=h0++tl) (hok:kf t hh rs) (hK:K r h0) (hv:VLe (frz (fun k=>decide (h0.length≤k)) hh 8 (qhR (zX t hh rs))) r):
  fnQ rs h0 K .ret t hh:=by subst e;exact qoy hok hK hv
theorem qt {P:Program} {b:Nat} {x:C} {Q:Ex→Nx} {ι:Type} {t:List AV} {h:List AObj} (T:ι→List AV) (H:ι→List AObj) (inv:ι→Prop) (m:ι→Nat) (i0:ι) (h0:inv i0) (hw:Wk t h (T i0) (H i0))
  (round: ∀i,inv i→ ∀K:Nx,(∀t' h' j,inv j→m j<m i→Wk t' h' (T j) (H j)→K t' h')→qW P b x (Ex.andThen K Q) (T i) (H i)):qW P b (.loop x) Q t h:=by
 refine ⟨fun n t h=> ∃i,inv i∧m i=n∧t=T i∧h=H i,⟨m i0,T i0,H i0,hw,i0,h0,rfl,rfl,rfl⟩,?_⟩
 rintro n t' h' ⟨i,hi,rfl,rfl,rfl⟩
 exact round i hi _ (fun t'' h'' j hj hlt hw=>⟨m j,T j,H j,hlt,hw,j,hj,rfl,rfl,rfl⟩)
def qU (n:Nat) (l:List (Nat×AV)):List AV:=l.foldl (fun t p=>zy p.1 t p.2) (List.replicate n .undef)
theorem qbi.nil:qbi [] []:=trivial
theorem qg (a:AV):VLe a .undef=True:=by simp [VLe.undef]
theorem qj (a:AV):VLe a a=True:=by simp [VLe.refl]
theorem qe {k:IntKind} {a b:Int} (h:a=b):VLe (.int k a) (.int k b):=h▸VLe.refl _
theorem qk:qbi [] []=True:=rfl
theorem qi {a b:AV} {l m:List AV}:qbi (a::l) (b::m)=(VLe a b∧qbi l m):=rfl
theorem qb {rs:List RV} {h:List AObj} {t:List AV} {r:AV} (hok:kf t h rs) (hv:VLe (frz (fun k=>decide (h.length≤k)) h 8 (qhR (zX t h rs))) r):fnQ rs h (fun r1 h1=>r1=r∧h1=h) .ret t h:=
 qkO (tl:= []) (by simp) hok ⟨rfl,rfl⟩ hv
theorem qd {rs:List RV} {h tl:List AObj} {t:List AV} {r:AV} (hok:kf t (h++tl) rs) (hv:VLe (frz (fun k=>decide (h.length≤k)) (h++tl) 8 (qhR (zX t (h++tl) rs))) r):fnQ rs h (fun r1 h1=>r1=r∧h1=h) .ret t (h++tl):=
 qkO rfl hok ⟨rfl,rfl⟩ hv
section
variable {fz : Nat → Bool} {h : List AObj} {n : Nat}
theorem frz_int {k:IntKind} {a:Int}:frz fz h (n+1) (.int k a)= .int k a:=rfl
theorem frz_bool {a:Bool}:frz fz h (n+1) (.bool a)= .bool a:=rfl
theorem frz_str {a:List UInt8}:frz fz h (n+1) (.str a)= .str a:=rfl
theorem frz_sl {m:Nat} {f:Nat→List AV}:frz fz h (n+1) (.sl m f)= .sl m f:=rfl
theorem frz_nl:frz fz h (n+1) .nl= .nl:=rfl
theorem frz_nilp:frz fz h (n+1) .nilp= .nilp:=rfl
theorem frz_nilfn:frz fz h (n+1) .nilfn= .nilfn:=rfl
theorem frz_ifc:frz fz h (n+1) .ifc= .ifc:=rfl
theorem frz_nilif:frz fz h (n+1) .nilif= .nilif:=rfl
theorem frz_undef:frz fz h (n+1) .undef= .undef:=rfl
theorem frz_ip {cs:List AV}:frz fz h (n+1) (.ip cs)= .ip cs:=rfl
theorem frz_agg {cs:List AV}:frz fz h (n+1) (.agg cs)= .agg (cs.map (frz fz h n)):=rfl
theorem frz_tup {cs:List AV}:frz fz h (n+1) (.tup cs)= .tup (cs.map (frz fz h n)):=rfl
theorem frz_fn {f:Fn} {a b:List AV}:frz fz h (n+1) (.fn f a b)= .fn f (a.map (frz fz h n)) (b.map (frz fz h n)):=rfl
theorem frz_gd {g:Bool} {v:AV}:frz fz h (n+1) (.gd g v)= .gd g (frz fz h n v):=rfl
end
attribute [go_sem] frz_int frz_bool frz_str frz_sl frz_nl frz_nilp frz_nilfn frz_ifc frz_nilif frz_undef frz_ip frz_agg frz_tup frz_fn frz_gd if_true if_false List.map_cons List.map_nil
attribute [go_sem] qhe ql6 ql7 qhU qhV qpy qpz
end AF
end
section
namespace AF
open Go
section
variable {h : List AObj} {l : List AObj} {n k v : Nat} {o : AObj} {ty : TypeId} {cs : List AV}
theorem getO_app0:qG h.length (h++l)=l[0]? :=by unfold qG;rw [List.getElem?_append_right (Nat.le_refl _),Nat.sub_self]
theorem getO_app:qG (h.length+n) (h++l)=l[n]? :=by unfold qG;rw [List.getElem?_append_right (by omega),Nat.add_sub_cancel_left]
theorem setO_app0:qQ h.length (h++l) o=h++l.set 0 o:=by unfold qQ;rw [List.set_append_right _ _ (Nat.le_refl _),Nat.sub_self]
theorem setO_app:qQ (h.length+n) (h++l) o=h++l.set n o:=by unfold qQ;rw [List.set_append_right _ _ (by omega),Nat.add_sub_cancel_left]
theorem verOf_mem:qu (some (.mem v ty cs))=v:=rfl
theorem verOf_emp:qu (some (.emp v))=v:=rfl
theorem tyOf_mem:qp5 (some (.mem v ty cs))=ty:=rfl
theorem site_app:qI (h++l) (h.length+n)=qI l n:=by unfold qI;rw [getO_app];rfl
theorem site_app0:qI (h++l) h.length=qI l 0:=by unfold qI;rw [getO_app0];rfl
theorem site_0_mem {v:Nat}:qI (.mem v ty cs::l) 0=true:=rfl
theorem site_0_emp {v:Nat}:qI (.emp v::l) 0=true:=rfl
theorem site_s:qI (o::l) (n+1)=qI l n:=rfl
theorem cellsOf_app:cellsOf (h++l) (h.length+n) v=cellsOf l n v:=by unfold cellsOf;rw [getO_app];rfl
theorem cellsOf_app0:cellsOf (h++l) h.length v=cellsOf l 0 v:=by unfold cellsOf;rw [getO_app0];rfl
theorem cellsOf_0 {w:Nat}:cellsOf (.mem w ty cs::l) 0 v=if w=v then some cs else none:=rfl
theorem cellsOf_s:cellsOf (o::l) (n+1) v=cellsOf l n v:=rfl
theorem liveS_app:zA (h++l) (h.length+n) v=zA l n v:=by unfold zA;rw [getO_app];rfl
theorem liveS_app0:zA (h++l) h.length v=zA l 0 v:=by unfold zA;rw [getO_app0];rfl
theorem liveS_0_mem {w:Nat}:zA (.mem w ty cs::l) 0 v=(w==v):=rfl
theorem liveS_0_emp {w:Nat}:zA (.emp w::l) 0 v=(w==v):=rfl
theorem liveS_s:zA (o::l) (n+1) v=zA l n v:=rfl
theorem tyOk_mem {t:TypeId}:qnm (some (.mem v t cs)) ty=(t==ty):=rfl
theorem tyOk_emp:qnm (some (.emp v)) ty=true:=rfl
theorem b_add0 {b:Nat}:b+0=b:=rfl
theorem appO_mem {t:TypeId} {ds:List AV} {c m:Nat}:qg2 (some (.mem k t ds)) ty v c m cs= .mem (v+1) ty (ds.take c++cs):=rfl
theorem appO_emp {c m:Nat}:qg2 (some (.emp k)) ty v c m cs=if m=0 then .emp (v+1) else .mem (v+1) ty cs:=rfl
end
section
variable {b : Nat} {h : List AObj} {t : List AV} {d : Option Nat} {nx : List AV → List AObj → Prop}
theorem qv5 {j sz:Nat} {ty:TypeId}:effE b h (.nilo j sz ty) [] t d nx=(qI h (b+j)=true∧nx (qL t d (.osl (b+j) (qu (qG (b+j) h)+1) sz 0 0)) (qQ (b+j) h (.emp (qu (qG (b+j) h)+1)))):=(rfl)
theorem qso {j:Nat} {ty:TypeId} {z:List AV}:effE b h (.alloc j ty z) [] t d nx=(qI h (b+j)=true∧nx (qL t d (.op (b+j) (qu (qG (b+j) h)+1) 0)) (qQ (b+j) h (.mem (qu (qG (b+j) h)+1) ty z))):=(rfl)
theorem qzL {j:Nat} {ty:TypeId} {v:AV}:effE b h (.box j ty) [v] t d nx=((qI h (b+j)=true∧v.solid=true)∧nx (qL t d (.op (b+j) (qu (qG (b+j) h)+1) 0)) (qQ (b+j) h (.mem (qu (qG (b+j) h)+1) ty v.cells))):=(rfl)
theorem qsr {n k ver off:Nat} {v:AV}:effE b h (.store n) [.op k ver off,v] t d nx=(((cellsOf h k ver).isSome=true∧v.solid=true∧v.cells.length=n∧off+n≤((cellsOf h k ver).getD []).length)∧
  nx (qL t d (.tup [])) (qQ k h (.mem ver (qp5 (qG k h)) (((cellsOf h k ver).getD []).take off++v.cells++((cellsOf h k ver).getD []).drop (off+n))))):=(rfl)
theorem qsq {j sz:Nat} {ty:TypeId} {z:List AV} {bytes:Nat} {l c:Int}:effE b h (.mkslc j sz ty z bytes) [.int .i64 l,.int .i64 c] t d nx=((qI h (b+j)=true∧z.length=sz∧0≤l∧l=c∧c*(bytes:Int)≤140737488355328∧c≤140737488355328)∧
   nx (qL t d (.osl (b+j) (qu (qG (b+j) h)+1) sz 0 l.toNat)) (qQ (b+j) h (.mem (qu (qG (b+j) h)+1) ty (zu z l.toNat)))):=(rfl)
theorem qv4 {j sz n:Nat} {ty:TypeId} {z:List AV} {ps:List (Nat×Nat)} {vs:List AV}:effE b h (.bslc j sz n ty z ps) vs t d nx=((qI h (b+j)=true∧z.length=sz∧kU (n*sz) ps vs∧n≤140737488355328)∧
   nx (qL t d (.osl (b+j) (qu (qG (b+j) h)+1) sz 0 n)) (qQ (b+j) h (.mem (qu (qG (b+j) h)+1) ty (qaf (zu z n) ps vs)))):=by
 cases vs<;>rfl
theorem qsp {j sz:Nat} {ty:TypeId} {bytes:Nat} {y:AV}:effE b h (.app j sz ty bytes) [.nl,y] t d nx=(((qs h y).isSome=true∧qI h (b+j)=true∧((qs h y).getD (0,[])).2.length=((qs h y).getD (0,[])).1*sz∧
    (((qs h y).getD (0,[])).1:Int)*bytes≤140737488355328∧(((qs h y).getD (0,[])).1:Int)≤140737488355328)∧
   nx (qL t d (.osl (b+j) (qu (qG (b+j) h)+1) sz 0 ((qs h y).getD (0,[])).1))
    (qQ (b+j) h (if ((qs h y).getD (0,[])).1=0 then .emp (qu (qG (b+j) h)+1) else .mem (qu (qG (b+j) h)+1) ty ((qs h y).getD (0,[])).2))):=(rfl)
theorem qzK {j sz:Nat} {ty:TypeId} {bytes k ver sz' off m:Nat} {y:AV}:effE b h (.app j sz ty bytes) [.osl k ver sz' off m,y] t d nx=(((qs h y).isSome=true∧zA h k ver=true∧qnm (qG k h) ty=true∧m*sz≤((cellsOf h k ver).getD []).length∧qbI (.osl k ver sz' off m) y=true∧sz'=sz∧off=0∧
    ((qs h y).getD (0,[])).2.length=((qs h y).getD (0,[])).1*sz∧
    ((m+((qs h y).getD (0,[])).1:Nat):Int)*bytes≤140737488355328∧((m+((qs h y).getD (0,[])).1:Nat):Int)≤140737488355328)∧
   nx (qL t d (.osl k (ver+1) sz 0 (m+((qs h y).getD (0,[])).1)))
    (qQ k h (qg2 (qG k h) ty ver (m*sz) ((qs h y).getD (0,[])).1 ((qs h y).getD (0,[])).2))):=(rfl)
theorem qn5 {j:Nat} {ty:TypeId} {s:List UInt8}:effE b h (.apps j ty) [.nl,.str s] t d nx=((qI h (b+j)=true∧(s.length:Int)≤140737488355328)∧
   nx (qL t d (.osl (b+j) (qu (qG (b+j) h)+1) 1 0 s.length))
    (qQ (b+j) h (if s.length=0 then .emp (qu (qG (b+j) h)+1) else .mem (qu (qG (b+j) h)+1) ty (jh s)))):=(rfl)
theorem qv2 {j:Nat} {ty:TypeId} {s:List UInt8} {k ver sz' off m:Nat}:effE b h (.apps j ty) [.osl k ver sz' off m,.str s] t d nx=((zA h k ver=true∧qnm (qG k h) ty=true∧m≤((cellsOf h k ver).getD []).length∧sz'=1∧off=0∧((m+s.length:Nat):Int)≤140737488355328)∧
   nx (qL t d (.osl k (ver+1) 1 0 (m+s.length)))
    (qQ k h (qg2 (qG k h) ty ver m s.length (jh s)))):=(rfl)
theorem qlS {n:Nat} {v:AV}:qL t (some n) v=zy n t v:=rfl
theorem qlR {v:AV}:qL t none v=t:=rfl
theorem qdN:qs h .nl=some (0,[]):=rfl
theorem qdO {n:Nat} {f:Nat→List AV}:qs h (.sl n f)=some (n,(List.range n).flatMap f):=rfl
end
attribute [go_sem] getO_app0 getO_app setO_app0 setO_app verOf_mem verOf_emp tyOf_mem site_app site_app0 site_0_mem site_0_emp site_s cellsOf_app cellsOf_app0 cellsOf_0 cellsOf_s liveS_app liveS_app0 liveS_0_mem liveS_0_emp liveS_s tyOk_mem tyOk_emp b_add0 appO_mem appO_emp
attribute [go_sem] qv5 qso qzL qsr qsq qv4 qsp qzK qn5 qv2 qlS qlR qdN qdO
attribute [go_sem] List.set_cons_zero List.set_cons_succ Option.isSome_some List.take_zero List.take_succ_cons List.take_nil List.drop_nil List.nil_append List.cons_append List.append_nil Nat.reduceAdd Nat.reduceMul Nat.reduceSub Nat.reduceLeDiff Nat.reduceEqDiff Nat.zero_add
end AF
end
section
namespace AF
open Go
theorem qq {P:Program} {f:Nat} {p:Bool} {vs:List AV} {d:Option Nat} {nx:Nx} {t:List AV} {h:List AObj} {r:AV} (hc:ACalls P f (strips vs) h r h) (hf:flags vs) (hn:nx (qL t d r) h):qjN P f p vs d nx t h:=
 ⟨hf,r,h,hc,fun _=>rfl,hn⟩
theorem qjO {P:Program} {f:Nat} {vs:List AV} {d:Option Nat} {nx:Nx} {t:List AV} {h h':List AObj} {r:AV} (hc:ACalls P f (strips vs) h r h') (hf:flags vs) (hn:nx (qL t d r) h'):qjN P f false vs d nx t h:=
 ⟨hf,r,h',hc,by simp,hn⟩
theorem qr {P:Program} {f:Nat} {p g:Bool} {vs:List AV} {d:Option Nat} {nx:Nx} {t:List AV} {h:List AObj} {r:AV} (hc:g=true→flags vs∧ACalls P f (strips vs) h r h) (hn:nx (qL t d (.gd g r)) h):qjQ P f p g vs d nx t h:=
 ⟨r,h,fun e=>⟨(hc e).1,(hc e).2,fun _=>rfl⟩,fun _=>rfl,hn⟩
theorem qAC {t:List AV} {h:List AObj}:kf t h []:=trivial
theorem qAD {t:List AV} {h:List AObj} {n:Nat} {l:List RV} (hl:kf t h l):kf t h (.tmp n::l):=⟨trivial,hl⟩
theorem qsM:flags []:=trivial
theorem qsL {a:AV} {l:List AV} (h:a.flag=true) (t:flags l):flags (a::l):=⟨h,t⟩
theorem ql {P:Program} {f:Nat} {p:Bool} {vs:List AV} {d:Option Nat} {nx:Nx} {t:List AV} {h:List AObj} (r:AV) (hn:nx (qL t d (.gd false r)) h):qjQ P f p false vs d nx t h:=by
 refine ⟨r,h,?_,fun _=>rfl,hn⟩
 intro e;cases e
theorem qa {a b:Bool} (h:a=b):VLe (.bool a) (.bool b):=h▸VLe.refl _
theorem qf {a b:List UInt8} (h:a=b):VLe (.str a) (.str b):=h▸VLe.refl _
theorem quR {n m:Nat} {f g:Nat→List AV} (e:n=m) (h: ∀i,i<m→f i=g i):VLe (.sl n f) (.sl m g):=by
 subst e
 intro w σ x hx
 have h1:=zE rfl hx
 cases h1 with
 |nilsl=>exact .imm .nilsl
 |sl sz b off cap vals hn hm hb hlt hsz hc h1 hv=>
  refine .imm (.sl sz b off cap vals hn hm hb hlt (fun i hi=> ?_) hc h1 (fun i j c hi hj=> ?_))
  ·rw [←h i hi];exact hsz i hi
  ·rw [←h i hi]at hj;exact hv i j c hi hj
theorem kj {f:Nat→List AV}:VLe .nl (.sl 0 f):=by
 intro w σ x hx
 have h1:=zE rfl hx
 cases h1 with
 |nl=>exact .imm .nilsl
theorem ke {l m:List AV} (h:qbi l m):VLe (.tup l) (.tup m):=by
 intro w σ x hx
 obtain ⟨vs,rfl,hl,hv⟩:=qeV hx
 refine .tup (by rw [hl,h.length]) (fun i c x hc hx=> ?_)
 obtain ⟨a,ha,hle⟩:=h.get i c hc
 exact hle w σ x (hv i a x ha hx)
def qqw (v:AV) (h:List AObj) (m:Option Nat):Prop:=
 match v with
 | .op k ver off=>okL h (.load m) [.op k ver off]
 |_=>False
theorem qhT {n:Nat} {m:Option Nat} {l:List RV} {t:List AV} {h:List AObj}:kf t h (.cell n m::l)=(qqw (qO n t) h m∧kf t h l):=rfl
theorem qfB {n:Nat} {m:Option Nat} {l:List RV} {t:List AV} {h:List AObj}:zX t h (.cell n m::l)=valL h (.load m) [qO n t]::zX t h l:=rfl
theorem qjU {k ver off:Nat} {h:List AObj} {m:Option Nat}:qqw (.op k ver off) h m=okL h (.load m) [.op k ver off]:=rfl
attribute [go_sem] qhT qfB qjU
theorem qe6:qX [] [] []=some true:=rfl
theorem qe5 {ks:List AK} {k:IntKind} {a c:Int} {l m:List AV}:qX (.int::ks) (.int k a::l) (.int k c::m)=(qX ks l m).map (fun y=>decide (a=c)&&y):=by
 simp only [qX,kk,if_true]
 cases qX ks l m<;>rfl
theorem qd1 {ks:List AK} {a c:Bool} {l m:List AV}:qX (.bool::ks) (.bool a::l) (.bool c::m)=(qX ks l m).map (fun y=>(a==c)&&y):=by
 simp only [qX,kk]
 cases qX ks l m<;>rfl
theorem qe7 {ks:List AK} {a c:List UInt8} {l m:List AV}:qX (.str::ks) (.str a::l) (.str c::m)=(qX ks l m).map (fun y=>decide (a=c)&&y):=by
 simp only [qX,kk]
 cases qX ks l m<;>rfl
attribute [go_sem] qe6 qe5 qd1 qe7 Option.map_some Bool.true_bne Bool.false_bne Bool.bne_false
theorem qtq {a b:Bool}:(a|| !a&&b)=(a||b):=by cases a<;>simp
theorem qzv {a:Bool}:(a==false)= !a:=by cases a<;>rfl
attribute [go_sem] qtq qzv Bool.not_eq_true' Bool.or_eq_true decide_eq_false_iff_not Bool.or_eq_false_iff Bool.not_eq_false' Bool.and_eq_false_imp Bool.true_or Bool.or_true Bool.false_or Bool.true_and Bool.not_true Bool.not_false decide_not Bool.not_not
end AF
end
section
namespace AF
open Go
theorem qsP {rs:List RV} {h0 h' tl:List AObj} {K:AV→List AObj→Prop} {t:List AV} {r:AV} (hok:kf t (h'++tl) rs) (hl:h'.length=h0.length) (hlow: ∀o∈h',o∈h0∨kX h0.length o) (hK:K r h')
  (hv:VLe (frz (fun k=>decide (h0.length≤k)) (h'++tl) 8 (qhR (zX t (h'++tl) rs))) r):fnQ rs h0 K .ret t (h'++tl):=
 ⟨r,h',hK,hok,⟨tl,rfl⟩,hl,hlow,VOut.of 8 hv⟩
theorem qox {rs:List RV} {h0 h' tl:List AObj} {K:AV→List AObj→Prop} {t:List AV} {r:AV} (hok:kf t (h'++tl) rs) (hl:h'.length=h0.length) (hlow: ∀o∈h',o∈h0∨kX h0.length o) (hK:K r h')
  (hv:VLe (frz (fun k=>decide (h0.length≤k)) (h'++tl) 8 (qhR (zX t (h'++tl) rs))) r):fnQ rs h0 K .normal t (h'++tl):=
 ⟨r,h',hK,hok,⟨tl,rfl⟩,hl,hlow,VOut.of 8 hv⟩
section
variable {k v : Nat} {h l : List AObj} {o o' : AObj} {ty : TypeId} {cs : List AV}
theorem qct (hk:k<h.length):qG k (h++l)=qG k h:=by unfold qG;rw [List.getElem?_append_left hk]
theorem jX:(qQ k h o).length=h.length:=by unfold qQ;simp
theorem qa0 (hk:k<h.length):qG k (qQ k h o)=some o:=by unfold qG qQ;rw [List.getElem?_set_self hk]
theorem ql9:qQ k (qQ k h o) o'=qQ k h o':=by unfold qQ;rw [List.set_set]
theorem qM (e:qG k h=some (.mem v ty cs)):cellsOf h k v=some cs:=by unfold cellsOf;rw [e];simp
theorem kM (e:qG k h=some o):k<h.length:=by unfold qG at e;exact (List.getElem?_eq_some_iff.1 e).1
end
section
variable {k v w n : Nat} {h l : List AObj} {o o' : AObj} {ty : TypeId} {cs : List AV}
theorem qoF (hk:k<h.length):qG k (qQ k h o++l)=some o:=by rw [qct (by rw [jX];exact hk),qa0 hk]
theorem qfb (hk:k<h.length):cellsOf (qQ k h (.mem w ty cs)++l) k v=if w=v then some cs else none:=by unfold cellsOf;rw [qoF hk]
theorem getO_seta:qG (h.length+n) (qQ k h o++l)=l[n]? :=by
 have:= @getO_app (qQ k h o) l n
 rwa [jX]at this
theorem getO_seta0:qG h.length (qQ k h o++l)=l[0]? :=by
 have:= @getO_app0 (qQ k h o) l
 rwa [jX]at this
theorem setO_seta:qQ (h.length+n) (qQ k h o++l) o'=qQ k h o++l.set n o':=by
 have:= @setO_app (qQ k h o) l n o'
 rwa [jX]at this
theorem setO_seta0:qQ h.length (qQ k h o++l) o'=qQ k h o++l.set 0 o':=by
 have:= @setO_app0 (qQ k h o) l o'
 rwa [jX]at this
theorem cellsOf_seta:cellsOf (qQ k h o++l) (h.length+n) v=cellsOf l n v:=by unfold cellsOf;rw [getO_seta];rfl
theorem cellsOf_seta0:cellsOf (qQ k h o++l) h.length v=cellsOf l 0 v:=by unfold cellsOf;rw [getO_seta0];rfl
theorem site_seta:qI (qQ k h o++l) (h.length+n)=qI l n:=by unfold qI;rw [getO_seta];rfl
theorem site_seta0:qI (qQ k h o++l) h.length=qI l 0:=by unfold qI;rw [getO_seta0];rfl
theorem liveS_seta:zA (qQ k h o++l) (h.length+n) v=zA l n v:=by unfold zA;rw [getO_seta];rfl
theorem liveS_seta0:zA (qQ k h o++l) h.length v=zA l 0 v:=by unfold zA;rw [getO_seta0];rfl
end
attribute [go_sem] getO_seta getO_seta0 setO_seta setO_seta0 cellsOf_seta cellsOf_seta0 site_seta site_seta0 liveS_seta liveS_seta0
theorem qpx:qhR []= .tup []:=rfl
attribute [go_sem] qpx
end AF
end
section
namespace AF
open Go
def qBE (c:Option (List AV)) (g:AV→AV) (off:Nat):AV:=
 match c with
 |some cs=> .ip ((cs.drop off).map g)
 |none=> .undef
def qdY (o:Option AObj) (ver sz off len:Nat) (g:AV→AV):AV:=
 match o with
 |some (.mem ve _ cs)=>if ve=ver∧off+len*sz≤cs.length then .sl len (fun i=>((cs.drop (off+i*sz)).take sz).map g) else .undef
 |some (.emp ve)=>if ve=ver then .nl else .undef
 |_=> .undef
section
variable {fz : Nat → Bool} {h : List AObj} {n k ver sz off len : Nat}
theorem rei_op:rei fz h (n+1) (.op k ver off)=if fz k=true then qBE (cellsOf h k ver) (rei fz h n) off else .undef:=rfl
theorem rei_osl:rei fz h (n+1) (.osl k ver sz off len)=if fz k=true then qdY (qG k h) ver sz off len (rei fz h n) else .undef:=rfl
theorem frz_op:frz fz h (n+1) (.op k ver off)=if fz k=true then rei fz h (n+1) (.op k ver off) else .op k ver off:=rfl
theorem frz_osl:frz fz h (n+1) (.osl k ver sz off len)=if fz k=true then rei fz h (n+1) (.osl k ver sz off len) else .osl k ver sz off len:=rfl
theorem ipOf_some {cs:List AV} {g:AV→AV}:qBE (some cs) g off= .ip ((cs.drop off).map g):=rfl
theorem slOf_mem {cs:List AV} {g:AV→AV} {ve:Nat} {ty:TypeId}:qdY (some (.mem ve ty cs)) ver sz off len g=if ve=ver∧off+len*sz≤cs.length then .sl len (fun i=>((cs.drop (off+i*sz)).take sz).map g) else .undef:=rfl
theorem slOf_emp {g:AV→AV} {ve:Nat}:qdY (some (.emp ve)) ver sz off len g=if ve=ver then .nl else .undef:=rfl
theorem rei_int {k:IntKind} {a:Int}:rei fz h (n+1) (.int k a)= .int k a:=rfl
theorem rei_bool {a:Bool}:rei fz h (n+1) (.bool a)= .bool a:=rfl
theorem rei_str {a:List UInt8}:rei fz h (n+1) (.str a)= .str a:=rfl
theorem rei_sl {m:Nat} {f:Nat→List AV}:rei fz h (n+1) (.sl m f)= .sl m f:=rfl
theorem rei_nl:rei fz h (n+1) .nl= .nl:=rfl
theorem rei_ip {cs:List AV}:rei fz h (n+1) (.ip cs)= .ip cs:=rfl
theorem rei_agg {cs:List AV}:rei fz h (n+1) (.agg cs)= .agg (cs.map (rei fz h n)):=rfl
theorem rei_tup {cs:List AV}:rei fz h (n+1) (.tup cs)= .tup (cs.map (rei fz h n)):=rfl
theorem rei_fn {f:Fn} {a b:List AV}:rei fz h (n+1) (.fn f a b)= .fn f (a.map (rei fz h n)) (b.map (rei fz h n)):=rfl
theorem rei_nilp:rei fz h (n+1) .nilp= .nilp:=rfl
theorem rei_undef:rei fz h (n+1) .undef= .undef:=rfl
end
attribute [go_sem] rei_op rei_osl frz_op frz_osl ipOf_some slOf_mem slOf_emp rei_int rei_bool rei_str rei_sl rei_nl rei_ip rei_agg rei_tup rei_fn rei_nilp rei_undef Nat.le_add_right Nat.le_refl Nat.mul_one Nat.one_mul
theorem qqo {P:Program} {b:Nat} {r:List RO} {K:Nx} {t:List AV} {h:List AObj} {d:Option Nat} {xs:List X} {j:Nat} {u:Bool}:opsA P b (⟨d,some (j,u),.callv,xs⟩::r) K t h=
  (qH (qO j t)=true∧(qv (qO j t) u=true→flags (evs t xs)∧qbZ P (strips (evs t xs)) d (opsA P b r K) t h)∧(qv (qO j t) u=false→opsA P b r K (qL t d .undef) h)):=by simp only [opsA,stepO,zS,R.kd]
theorem qjR {P:Program} {k:Nat} {args:List AV} {d:Option Nat} {nx:Nx} {t:List AV} {h:List AObj}:qbZ P (.yld k::args) d nx t h=((∃s ts L,qG k h=some (.lp s ts L))∧kh P k args h fun v h'=>nx (qL t d v) h'):=(rfl)
theorem qcV:valP (.un .not) [.undef]= .bool true:=rfl
theorem qlG {g q:Bool}:jx (.bool false) (.gd g .undef) (.bool q)= .bool q:=rfl
attribute [go_sem] qqo qjR qcV qlG true_implies false_implies Bool.false_eq_true Bool.true_eq_false
end AF
end
section
namespace AF
open Go
theorem qlu {P:Program} {b:Nat} {l:List RO}: ∀ {nx nx':Nx} {t:List AV} {h:List AObj},(∀t h,nx t h→nx' t h)→opsA P b l nx t h→opsA P b l nx' t h:=by
 induction l with
 |nil=>intro nx nx' t h hn H;exact hn _ _ H
 |cons o l ih=>intro nx nx' t h hn H;exact jH (fun t h H=>ih hn H) H
theorem qdG {h0:List AObj} {t:List AV} {Q Q':Ex→Nx} {h:List AObj} (hq: ∀e t h,Q e t h→Q' e t h) (H:qdF h0 t Q h):qdF h0 t Q' h:=by
 obtain ⟨hh,s,ts,L,h1,h2,h3,h4⟩:=H
 refine ⟨hh,s,ts,L,h1,h2,h3,?_⟩
 cases s with
 |ready=>exact hq _ _ _ h4
 |ret=>exact hq _ _ _ h4
 |exit id=>exact hq _ _ _ h4
 |busy=>exact h4
theorem qan {P:Program} {b:Nat} {x:C}: ∀ {Q Q':Ex→Nx} {t:List AV} {h:List AObj},(∀e t h,Q e t h→Q' e t h)→qW P b x Q t h→qW P b x Q' t h:=by
 induction x with
 |skip=>intro Q Q' t h hq H;exact hq _ _ _ H
 |ops l=>intro Q Q' t h hq H;exact qlu (fun t h H=>hq _ _ _ H) H
 |seq x y ihx ihy=>
  intro Q Q' t h hq H
  refine ihx (fun e t h H=> ?_) H
  cases e with
  |normal=>exact ihy hq H
  |exit id=>exact hq _ _ _ H
  |ret=>exact hq _ _ _ H
 |cond c x y ihx ihy=>
  intro Q Q' t h hq H
  simp only [qW,qfh]at*
  split at H
  ·exact ⟨fun e=>ihx hq (H.1 e),fun e=>ihy hq (H.2 e)⟩
  ·exact ⟨ihx hq H.1,ihy hq H.2⟩
  ·exact H.elim
 |block id x ih=>
  intro Q Q' t h hq H
  refine ih (fun e t h H=> ?_) H
  cases e with
  |normal=>exact hq _ _ _ H
  |ret=>exact hq _ _ _ H
  |exit i=>
   simp only [Ex.inBlock]at*
   split
   ·rename_i e;rw [if_pos e]at H;exact hq _ _ _ H
   ·rename_i e;rw [if_neg e]at H;exact hq _ _ _ H
 |loop x ih=>
  intro Q Q' t h hq H
  obtain ⟨I,h1,h2⟩:=H
  refine ⟨I,h1,fun n t' h' hi=>ih (fun e t h H=> ?_) (h2 n t' h' hi)⟩
  cases e with
  |normal=>exact H
  |exit id=>exact hq _ _ _ H
  |ret=>exact hq _ _ _ H
 |range u ps x y ihx ihy=>
  intro Q Q' t h hq H L hy
  have:=H L hy
  split at this
  ·exact this.le (qbi.refl _) (fun v h' hr=>⟨v,VLe.refl _,qdG hq hr⟩)
  ·exact this
 |exit id=>intro Q Q' t h hq H;exact hq _ _ _ H
 |ret=>intro Q Q' t h hq H;exact hq _ _ _ H
 |wk=>
  intro Q Q' t h hq H
  obtain ⟨t',h',h1,h2⟩:=H
  exact ⟨t',h',h1,hq _ _ _ h2⟩
 |draw d=>
  intro Q Q' t h hq H
  obtain ⟨M,h1,h2⟩:=H
  exact ⟨M,h1,fun t' h' hm=>hq _ _ _ (h2 t' h' hm)⟩
 |bad=>intro Q Q' t h hq H;exact H
def qtX (o:Option AObj) (ver sz off n:Nat):Option (Nat×List AV):=
 match o with
 |some (.mem v _ cs)=>if v=ver∧off+n*sz≤cs.length then some (n,(cs.drop off).take (n*sz)) else none
 |some (.emp v)=>if v=ver∧n=0 then some (0,[]) else none
 |_=>none
theorem qcS {h:List AObj} {k ver sz off n:Nat}:qs h (.osl k ver sz off n)=qtX (qG k h) ver sz off n:=rfl
theorem qmf {v ver sz off n:Nat} {ty:TypeId} {cs:List AV}:qtX (some (.mem v ty cs)) ver sz off n=if v=ver∧off+n*sz≤cs.length then some (n,(cs.drop off).take (n*sz)) else none:=rfl
theorem qme {v ver sz off n:Nat}:qtX (some (.emp v)) ver sz off n=if v=ver∧n=0 then some (0,[]) else none:=rfl
theorem qg1 {k v z p n k' v' z' p' n':Nat}:qbI (.osl k v z p n) (.osl k' v' z' p' n')=(k !=k'):=rfl
theorem qiM {k v z p n m:Nat} {f:Nat→List AV}:qbI (.osl k v z p n) (.sl m f)=true:=rfl
theorem qiL {k v z p n:Nat}:qbI (.osl k v z p n) .nl=true:=rfl
attribute [go_sem] Int.toNat_zero decide_true decide_false beq_self_eq_true
attribute [go_sem] qcS qmf qme qg1 qiM qiL
theorem qf2 {g:List AObj} {z:Nat} {i:AV}:valL g (.idxA z) [.nl,i]= .undef:=rfl
theorem qcJ {g:List AObj} {n:Option Nat}:valL g (.load n) [.undef]= .undef:=rfl
theorem qcT {g:List AObj} {n:Nat}:valL g (.fldA n) [.undef]= .undef:=rfl
theorem qg4 {op:BinOp} {y:AV}:qav op .undef y= .undef:=rfl
theorem qlM {p g:Bool}:jx (.bool true) (.bool p) (.gd g .undef)= .bool p:=rfl
theorem qlH {p g:Bool}:jx (.bool false) (.gd g .undef) (.bool p)= .bool p:=rfl
attribute [go_sem] qf2 qcJ qcT qg4 qlM qlH
theorem qrV {P:Program} {b:Nat} {u:X} {ps:List Nat} {x y:C} {Q:Ex→Nx} {t:List AV} {h:List AObj}:qW P b (.range u ps x y) Q t h=qeF P (ev t u) ps (qW P b x) (qW P b y) Q t h:=(rfl)
attribute [go_sem] qrV
end AF
end
section
namespace AF
open Go
theorem HR.move {w:World} {σ:List OB} {h:List AObj} (H:HR w σ h) {k j vj:Nat} {ty:TypeId} {cs:List AV} (hj:qG j h=some (.mem vj ty cs)) (hk:qI h k=true) (hne:k≠j):
  ∃σ',HR w σ' (qQ k (qQ j h (.emp (vj+1))) (.mem (qu (qG k h)+1) ty cs))∧Ext w σ w σ'∧
   ∀sz off len x,VR w σ (.osl j vj sz off len) x→VR w σ' (.osl k (qu (qG k h)+1) sz off len) x:=by
 obtain ⟨ok,hok,hver⟩:=zL H hk
 have hjl:j<σ.length:=by rw [H.len];exact kM hj
 have hkl:k<σ.length:=(List.getElem?_eq_some_iff.1 hok).1
 obtain ⟨oj,hoj⟩: ∃oj,σ[j]? =some oj:=⟨_,List.getElem?_eq_getElem hjl⟩
 have hobj:=H.obj j _ oj hj hoj
 obtain ⟨m1,m2,b,arr,m3,m4,m5,m6,m7,m8⟩:=hobj
 rw [hver]
 let oj':OB:= { oj with blk:=none,ver:=oj.ver+1 }
 let ok':OB:= { oj with ver:=ok.ver+1 }
 let σ':=(σ.set j oj').set k ok'
 have gk:σ'[k]? =some ok':=by simp [σ',hkl]
 have gj:σ'[j]? =some oj':=by simp only [σ'];rw [List.getElem?_set_ne hne];simp [hjl]
 have go: ∀i,i≠k→i≠j→σ'[i]? =σ[i]? :=by
  intro i h1 h2
  simp only [σ']
  rw [List.getElem?_set_ne (fun e=>h1 e.symm),List.getElem?_set_ne (fun e=>h2 e.symm)]
 have blk: ∀(i:Nat) (o:OB) (b:Nat),σ'[i]? =some o→o.blk=some b→(i=k∧oj.blk=some b)∨(i≠k∧i≠j∧σ[i]? =some o):=by
  intro i o b h1 h2
  by_cases e1:i=k
  ·subst e1;rw [gk]at h1;cases h1;exact .inl ⟨rfl,h2⟩
  ·by_cases e2:i=j
   ·subst e2;rw [gj]at h1;cases h1;cases h2
   ·rw [go i e1 e2]at h1;exact .inr ⟨e1,e2,h1⟩
 have hext:Ext w σ w σ':=by
  refine ⟨rfl,rfl,rfl,Nat.le_refl _,fun _ _ _=>rfl,?_,?_,fun b r h=>⟨r,h⟩⟩
  ·rintro b ⟨i,o,h1,h2⟩
   rcases blk i o b h1 h2 with ⟨_,h3⟩|⟨_,_,h3⟩
   ·exact .inl ⟨j,oj,hoj,h3⟩
   ·exact .inl ⟨i,o,h3,h2⟩
  ·intro i o h1
   by_cases e1:i=k
   ·subst e1;rw [hok]at h1;cases h1;exact ⟨ok',gk,by simp [ok'],by simp [ok']⟩
   ·by_cases e2:i=j
    ·subst e2;rw [hoj]at h1;cases h1;exact ⟨oj',gj,by simp [oj'],by simp [oj']⟩
    ·exact ⟨o,by rw [go i e1 e2];exact h1,Nat.le_refl _,fun _=>rfl⟩
 refine ⟨σ',⟨by simp [σ',qQ,H.len],?_,?_,?_⟩,hext,?_⟩
 ·intro i i' o o' b h1 h2 h3 h4
  rcases blk i o b h1 h3 with ⟨rfl,g1⟩|⟨g0,g1,g2⟩<;>rcases blk i' o' b h2 h4 with ⟨rfl,g1'⟩|⟨g0',g1',g2'⟩
  ·rfl
  ·exact absurd (H.inj i' j o' oj b g2' hoj h4 g1) g1'
  ·exact absurd (H.inj i j o oj b g2 hoj h3 g1') g1
  ·exact H.inj i i' o o' b g2 g2' h3 h4
 ·intro i o b h1 h2
  rcases blk i o b h1 h2 with ⟨_,g1⟩|⟨_,_,g2⟩
  ·exact H.lt j oj b hoj g1
  ·exact H.lt i o b g2 h2
 ·intro i a o ha ho
  by_cases e1:i=k
  ·subst e1
   have hkh:i<(qQ j h (.emp (vj+1))).length:=by rw [jX,←H.len];exact hkl
   have:=qa0 (o:= .mem (ok.ver+1) ty cs) hkh
   unfold qG at this
   rw [this]at ha
   cases ha
   rw [gk]at ho
   cases ho
   exact ⟨rfl,m2,b,arr,m3,m4,m5,m6,m7,fun i c x hc hx=>(m8 i c x hc hx).ext hext⟩
  ·by_cases e2:i=j
   ·subst e2
    have hjh:i<h.length:=by rw [←H.len];exact hjl
    simp only [qQ]at ha
    rw [List.getElem?_set_ne hne,List.getElem?_set_self hjh]at ha
    cases ha
    rw [gj]at ho
    cases ho
    exact ⟨by simp [oj',m1],rfl⟩
   ·rw [go i e1 e2]at ho
    simp only [qQ]at ha
    rw [List.getElem?_set_ne (fun e=>e1 e.symm),List.getElem?_set_ne (fun e=>e2 e.symm)]at ha
    exact (H.obj i a o ha ho).ext hext (fun _ _=>rfl)
 ·intro sz off len x hx
  cases hx with
  |imm h=>cases h
  |osl o ho hs hle hh=>
   rw [hoj]at ho
   cases ho
   refine .osl ok' gk hs (Nat.le_refl _) (fun _=> ?_)
   exact hh m1
end AF
end
section
namespace AF
open Go
section
variable {P : Program} {b : Nat} {r : List RO} {K : Nx} {t : List AV} {h : List AObj} {d : Option Nat} {xs : List X} {j : Nat} {u : Bool}
theorem wg_bslc {i z n:Nat} {ty:TypeId} {zs:List AV} {ps:List (Nat×Nat)}:opsA P b (⟨d,some (j,u),.bslc i z n ty zs ps,xs⟩::r) K t h=
  (qH (qO j t)=true∧(qv (qO j t) u=true→flags (evs t xs)∧effE b h (.bslc i z n ty zs ps) (strips (evs t xs)) t d (opsA P b r K))∧(qv (qO j t) u=false→opsA P b r K (qL t d .undef) h)):=by simp only [opsA,stepO,zS,R.kd]
theorem wg_box {i:Nat} {ty:TypeId}:opsA P b (⟨d,some (j,u),.box i ty,xs⟩::r) K t h=
  (qH (qO j t)=true∧(qv (qO j t) u=true→flags (evs t xs)∧effE b h (.box i ty) (strips (evs t xs)) t d (opsA P b r K))∧(qv (qO j t) u=false→opsA P b r K (qL t d .undef) h)):=by simp only [opsA,stepO,zS,R.kd]
theorem wg_app {i z m:Nat} {ty:TypeId}:opsA P b (⟨d,some (j,u),.app i z ty m,xs⟩::r) K t h=
  (qH (qO j t)=true∧(qv (qO j t) u=true→flags (evs t xs)∧effE b h (.app i z ty m) (strips (evs t xs)) t d (opsA P b r K))∧(qv (qO j t) u=false→opsA P b r K (qL t d .undef) h)):=by simp only [opsA,stepO,zS,R.kd]
end
attribute [go_sem] wg_bslc wg_box wg_app
end AF
end
section
namespace AF
open Go
def qjX (o:Option AObj) (ver:Nat):Option (List AV):=
 match o with
 |some (.mem v _ cs)=>if v=ver then some cs else none
 |_=>none
def qq4 (o:Option AObj) (ver:Nat):Bool:=
 match o with
 |some (.mem v _ _)=>v==ver
 |some (.emp v)=>v==ver
 |_=>false
section
variable {h l : List AObj} {i j k ver v : Nat} {o o' o'' : AObj} {ty : TypeId} {cs : List AV}
theorem qck:cellsOf h k ver=qjX (qG k h) ver:=rfl
theorem qet:zA h k ver=qq4 (qG k h) ver:=rfl
theorem qcj:qjX (some (.mem v ty cs)) ver=if v=ver then some cs else none:=rfl
theorem qc7:qq4 (some (.mem v ty cs)) ver=(v==ver):=rfl
theorem qbM (hne:k≠j):qG k (qQ j h o)=qG k h:=by unfold qG qQ;rw [List.getElem?_set_ne (fun e=>hne e.symm)]
end
end AF
end
section
namespace AF
open Go
theorem qa4 {α β:Type} {f:α→Option β}: ∀ {l:List α} {ys:List β},l.mapM f=some ys→ys.length=l.length∧ ∀(i:Nat) x y,l[i]? =some x→ys[i]? =some y→f x=some y:=by
 intro l
 induction l with
 |nil=>intro ys h;simp at h;subst h;simp
 |cons a l ih=>
  intro ys h
  rw [List.mapM_cons]at h
  cases ha:f a with
  |none=>simp [ha]at h
  |some b=>
   cases hl:l.mapM f with
   |none=>simp [ha,hl]at h
   |some zs=>
    simp [ha,hl]at h
    subst h
    obtain ⟨h1,h2⟩:=ih hl
    refine ⟨by simp [h1],fun i x y hx hy=> ?_⟩
    cases i with
    |zero=>simp at hx hy;subst hx hy;exact ha
    |succ i=>exact h2 i x y (by simpa using hx) (by simpa using hy)
inductive FK where
 |bool
 |int (k:IntKind)
 |str
 deriving DecidableEq
section
variable {H : Type} {enc : TypeId × Value → H} {P : Program} {w : World} {sp : Nat → Bool} {held : Bool} {ow : Nat → Prop}
end
theorem HR.nil (w:World):HR w [] []:=⟨rfl,by simp,by simp,by simp⟩
theorem qtt (b:Nat): ¬own [] b:=fun ⟨k,o,h,_⟩=>by simp at h
theorem VRs.nil' {w:World} {σ:List OB}:VRs w σ [] []:=⟨rfl,by simp⟩
theorem VRs.cons' {w:World} {σ:List OB} {a:AV} {v:Value} {as:List AV} {vs:List Value} (h:VR w σ a v) (h':VRs w σ as vs):VRs w σ (a::as) (v::vs):=by
 refine ⟨by simp [h'.1],fun i c x hc hx=> ?_⟩
 cases i with
 |zero=>simp at hc hx;subst hc hx;exact h
 |succ i=>exact h'.2 i c x (by simpa using hc) (by simpa using hx)
end AF
end
section
namespace AF
open Go Go.ChangeShapes Go.WideShapes Go.ChangeAt Go.RowKit
section
variable {H : Type} {enc : TypeId × Value → H} {P : Program} {W W' : World}
theorem qeT (hl:laidOutB P=true) (hb:Below W.heap.size W W'): ∀ {ts:List TypeId} {vs:List Value} {ds:List (DataW H)} {ps:List MemPlace},(∀t∈ts,P.readableRec t=true∧t<P.types.size)→
  (∀x∈ps,x.block<W.heap.size)→DataW.TrodAll enc P W 0 (fun _=>true) true ts vs ds ps→DataW.TrodAll enc P W' 0 (fun b=>decide (b<W.heap.size)) true ts vs ds ps:=by
 intro ts
 induction ts with
 |nil=>
  intro vs ds ps _ _ h
  match vs,ds,h with
  | [],[],h=>exact h
 |cons t ts ih=>
  intro vs ds ps ht hp h
  match vs,ds,h with
  |v::vs,d::ds,⟨p,q,h1,h2,e⟩=>
   subst e
   refine ⟨p,q,?_,?_,rfl⟩
   ·exact Below.trod hl (ht t (by simp)).1 (ht t (by simp)).2 h1 hb (fun x hx=>hp x (by simp [hx]))
   ·exact ih (fun u hu=>ht u (by simp [hu])) (fun x hx=>hp x (by simp [hx])) h2
theorem qoO {f:Func} {s:ChangeSpec} {args:Array Value} {ds:List (DataW H)} {before:List MemPlace} {tb:TypeId} (hl:laidOutB P=true) (hv:s.vars= []) (hfn:s.fn H ds= { results:= [.lit (.bool true)],args:=ds })
  (hrt:f.resultTypes= #[tb]) (htb:P.underlying tb=some .bool) (hro: ∀t∈f.params.toList,P.readableRec t=true∧t<P.types.size)
  (hW:DataW.Whole enc P f.params.toList s.vars false W args.toList ds [] before) (hA:DataW.TrodAll enc P W 0 (fun _=>true) true f.params.toList args.toList ds before) (hb:Below W.heap.size W W'):
  s.post enc P f false true false false W args (.bool true) W':=by
 have hlt: ∀x∈before,x.block<W.heap.size:=fun x hx=>hW.lt x hx
 refine ⟨ds,[],before,[],before,[],hW,?_,?_,?_,?_,fun h=>by cases h⟩
 ·rw [List.append_nil,hfn,hrt]
  exact ⟨[],[],shut_bool htb true,rfl,rfl⟩
 ·rw [List.append_nil,hfn]
  exact qeT hl hb hro hlt hA
 ·rw [List.append_nil,hfn,hv]
  rfl
 ·exact World.keptBut_mono (fun x hx=>⟨hx,.inr (.inl hx)⟩) (hb.frame (· ∈before))
end
end AF
end
section
namespace AF
open Go
def qp4 (P:Program):Nat→List Field→Option Nat
 |n,[]=>some n
 |n,f::r=>if f.offset=n then qp4 P (n+P.cellsOf f.type) r else none
def qbQ (P:Program):Nat→TypeId→Bool
 |0,_=>false
 |d+1,t=>match P.underlying t with
  |some .bool=>decide (P.cellsOf t=1)
  |some (.int _)=>decide (P.cellsOf t=1)
  |some .string=>decide (P.cellsOf t=1)
  |some (.slice e)=>decide (P.cellsOf t=1)&&(decide (0<P.cellsOf e)&&qbQ P d e)
  |some (.struct fs)=>decide (qp4 P 0 fs.toList=some (P.cellsOf t))&&fs.toList.all fun f=>qbQ P d f.type
  |_=>false
def zC (P:Program):Nat→TypeId→List AV→Prop
 |0,_,_=>False
 |d+1,t,as=>match P.underlying t with
  |some .bool=> ∃b,as= [.bool b]
  |some (.int k)=> ∃n,as= [.int k n]∧(Lit.int k n).wf=true
  |some .string=> ∃s:List UInt8,as= [.str s]∧s.length≤maxLen
  |some (.slice e)=> ∃(n:Nat) (f:Nat→List AV),as= [.sl n f]∧n≤maxLen∧ ∀i,i<n→zC P d e (f i)
  |some (.struct fs)=>as.length=P.cellsOf t∧ ∀f∈fs.toList,zC P d f.type ((as.drop f.offset).take (P.cellsOf f.type))
  |_=>False
section
variable {H : Type} {enc : TypeId × Value → H} {P : Program} {w : World} {held : Bool} {ow : Nat → Prop}
structure qab (w:World) (ow:Nat→Prop) (as:List AV) (cs:List Value):Prop where
 len:cs.length=as.length
 one: ∀(i:Nat) v,cs[i]? =some v→v.oneCell'=true
 vi: ∀(i:Nat) c v,as[i]? =some c→cs[i]? =some v→VI w ow c v
theorem qab.single {a:AV} {v:Value} (h1:v.oneCell'=true) (h2:VI w ow a v):qab w ow [a] [v]:=by
 refine ⟨rfl,fun i x hx=> ?_,fun i c x hc hx=> ?_⟩
 ·cases i<;>simp at hx;subst hx;exact h1
 ·cases i<;>simp at hx hc;subst hx hc;exact h2
theorem qab.append {as bs:List AV} {cs ds:List Value} (h:qab w ow as cs) (h':qab w ow bs ds):qab w ow (as++bs) (cs++ds):=by
 have hl:=h.len
 refine ⟨by simp [hl,h'.len],fun i v hv=> ?_,fun i c v hc hv=> ?_⟩
 ·rw [List.getElem?_append]at hv
  split at hv
  ·exact h.one i v hv
  ·exact h'.one _ v hv
 ·rw [List.getElem?_append]at hc hv
  split at hv
  ·rename_i hi
   rw [if_pos (by omega)]at hc
   exact h.vi i c v hc hv
  ·rename_i hi
   rw [if_neg (by omega),←hl]at hc
   exact h'.vi _ c v hc hv
theorem qfk {d fuel:Nat} (ih: ∀(t:TypeId) (cs:List Value) (dd:DataW H) (ps:List MemPlace),qbQ P d t=true→DataW.trod enc P w 0 (fun _=>true) held fuel t cs=some (dd,ps)→ ∃as,zC P d t as∧as.length=P.cellsOf t∧qab w ow as cs) {cs:List Value}:
  ∀(fs:List Field) (n m:Nat) (xs:List (DataW H×List MemPlace)),qp4 P n fs=some m→(∀f∈fs,qbQ P d f.type=true)→m≤cs.length→
   fs.mapM (fun f=>DataW.trod enc P w 0 (fun _=>true) held fuel f.type ((cs.drop f.offset).take (P.cellsOf f.type)))=some xs→
   n≤m∧ ∃as,(∀f∈fs,n≤f.offset∧zC P d f.type ((as.drop (f.offset-n)).take (P.cellsOf f.type)))∧as.length=m-n∧qab w ow as ((cs.drop n).take (m-n)):=by
 intro fs
 induction fs with
 |nil=>
  intro n m xs ht _ hm _
  cases ht
  exact ⟨Nat.le_refl _,[],by simp,by simp,⟨by simp,by simp,by simp⟩⟩
 |cons f r ihr=>
  intro n m xs ht hk hm hx
  simp only [qp4]at ht
  split at ht
  ·rename_i hoff
   rw [List.mapM_cons]at hx
   cases ha:DataW.trod enc P w 0 (fun _=>true) held fuel f.type ((cs.drop f.offset).take (P.cellsOf f.type))with
   |none=>simp [ha]at hx
   |some y=>
    cases hl:r.mapM (fun f=>DataW.trod enc P w 0 (fun _=>true) held fuel f.type ((cs.drop f.offset).take (P.cellsOf f.type)))with
    |none=>simp [ha,hl]at hx
    |some zs=>
     obtain ⟨g0,as1,g1,g2,g3⟩:=ihr (n+P.cellsOf f.type) m zs ht (fun g hg=>hk g (by simp [hg])) hm hl
     obtain ⟨as0,k1,k2,k3⟩:=ih f.type _ y.1 y.2 (hk f (by simp)) (by rw [ha])
     rw [hoff]at k3
     refine ⟨by omega,as0++as1,fun g hg=> ?_,by rw [List.length_append,k2,g2];omega,?_⟩
     ·rcases List.mem_cons.1 hg with rfl|hg
      ·refine ⟨by omega,?_⟩
       rw [hoff,Nat.sub_self,List.drop_zero,List.take_append_of_le_length (by omega),List.take_of_length_le (by omega)]
       exact k1
      ·obtain ⟨q1,q2⟩:=g1 g hg
       refine ⟨by omega,?_⟩
       rw [List.drop_append,List.drop_of_length_le (by omega),List.nil_append,show g.offset-n-as0.length=g.offset-(n+P.cellsOf f.type) by omega]
       exact q2
     ·have e:(cs.drop n).take (m-n)=(cs.drop n).take (P.cellsOf f.type)++(cs.drop (n+P.cellsOf f.type)).take (m-(n+P.cellsOf f.type)):=by
       rw [show m-n=P.cellsOf f.type+(m-(n+P.cellsOf f.type)) by omega,List.take_add,List.drop_drop]
      rw [e]
      exact k3.append g3
  ·cases ht
theorem qmr {a:Addr} {v:Value} (h:w.cell? a=some v): ∃b off,a=⟨b,off,none⟩∧b<w.heap.size:=by
 obtain ⟨b,off,spot⟩:=a
 unfold World.cell? at h
 split at h
 ·rename_i c e f hb
  split at h
  ·cases h
  ·rename_i hs
   cases spot with
   |some _=>simp at hs
   |none=>exact ⟨b,off,rfl,(Array.getElem?_eq_some_iff.1 hb).1⟩
 ·cases h
theorem qkk (how: ∀b,¬ow b): ∀(d fuel:Nat) (t:TypeId) (cs:List Value) (dd:DataW H) (ps:List MemPlace),qbQ P d t=true→DataW.trod enc P w 0 (fun _=>true) held fuel t cs=some (dd,ps)→
  ∃as,zC P d t as∧as.length=P.cellsOf t∧qab w ow as cs:=by
 intro d
 induction d with
 |zero=>intro fuel t cs dd ps hk;cases hk
 |succ d ih=>
  intro fuel t cs dd ps hk h
  unfold qbQ at hk
  unfold zC
  split at hk
  ·rename_i ht
   have hc:=of_decide_eq_true hk
   obtain ⟨b,rfl,_⟩:=DataW.trod_bool ht h
   exact ⟨[.bool b],⟨b,rfl⟩,hc.symm,qab.single rfl .bool⟩
  ·rename_i k ht
   have hc:=of_decide_eq_true hk
   obtain ⟨n,rfl,_,hw⟩:=DataW.trod_int ht h
   exact ⟨[.int k n],⟨n,rfl,hw⟩,hc.symm,qab.single rfl .int⟩
  ·rename_i ht
   have hc:=of_decide_eq_true hk
   obtain ⟨s,rfl,_,hw⟩:=DataW.trod_string ht h
   have hsz:s.data.toList.length≤maxLen:=by rw [Array.length_toList];exact hw
   exact ⟨[.str s.data.toList],⟨_,rfl,hsz⟩,hc.symm,qab.single rfl (by have:= @VI.str w ow s.data.toList;rw [Array.toArray_toList]at this;exact this)⟩
  ·rename_i e ht
   simp only [Bool.and_eq_true,decide_eq_true_eq]at hk
   obtain ⟨hc,hpos,hk⟩:=hk
   cases fuel with
   |zero=>simp [DataW.trod]at h
   |succ fuel=>
    have hcs:(cs= [.slice none 0 0])∨ ∃a len cap,cs= [.slice (some a) len cap]:=by
     unfold DataW.trod at h
     rw [ht]at h
     split at h<;>first|(rename_i g _;cases g;done)|skip
     all_goals first|(rename_i g;cases g;done)|skip
     all_goals first|exact .inl rfl|exact .inr ⟨_,_,_,rfl⟩|(cases h;done)
    rcases hcs with rfl|⟨a,len,cap,rfl⟩
    ·exact ⟨[.sl 0 fun _=> []],⟨0,fun _=> [],rfl,Nat.zero_le _,fun i hi=>absurd hi (Nat.not_lt_zero _)⟩,hc.symm,qab.single rfl .nilsl⟩
    ·simp only [DataW.trod,ht]at h
     split at h
     ·rename_i hcc
      obtain ⟨_,c1,c2⟩:=hcc
      rw [Option.bind_eq_some_iff]at h
      obtain ⟨elems,hm,hrest⟩:=h
      rw [Option.map_eq_some_iff]at hrest
      obtain ⟨rest,hrest,_⟩:=hrest
      try simp only [if_true]at hrest
      obtain ⟨m1,m2⟩:=qa4 hm
      obtain ⟨r1,r2⟩:=qa4 hrest
      simp only [List.length_range]at m1 r1
      have all: ∀i,i<cap→ ∃x,((w.cells? 0 (a.add (i*P.cellsOf e)) (P.cellsOf e)).bind (DataW.trod enc P w 0 (fun _=>true) held fuel e))=some x:=by
       intro i hi
       by_cases hl:i<len
       ·exact ⟨_,m2 i i _ (by simp [hl]) (List.getElem?_eq_getElem (by omega))⟩
       ·have:=r2 (i-len) (i-len) _ (by rw [List.getElem?_range (by omega)]) (List.getElem?_eq_getElem (by omega))
        rw [show len+(i-len)=i by omega]at this
        exact ⟨_,this⟩
      by_cases hcap:cap=0
      ·subst hcap
       have:len=0:=by omega
       subst this
       exact ⟨[.sl 0 fun _=> []],⟨0,fun _=> [],rfl,Nat.zero_le _,fun i hi=>absurd hi (Nat.not_lt_zero _)⟩,hc.symm,qab.single rfl .nilsl⟩
      ·obtain ⟨x0,h0⟩:=all 0 (by omega)
       rw [Option.bind_eq_some_iff]at h0
       obtain ⟨cs0,h0,_⟩:=h0
       rw [Nat.zero_mul]at h0
       have hadd0:a.add 0=a:=by simp [Addr.add]
       rw [hadd0]at h0
       unfold World.cells? at h0
       rw [if_pos (Nat.zero_le _)]at h0
       obtain ⟨n1,n2⟩:=qa4 h0
       simp only [List.length_range]at n1
       have hcell:=n2 0 0 _ (by simp [hpos]) (List.getElem?_eq_getElem (show 0<cs0.length by omega))
       rw [hadd0]at hcell
       obtain ⟨b,off,rfl,hlt⟩:=qmr hcell
       have hadd: ∀n,(⟨b,off,none⟩:Addr).add n=⟨b,off+n,none⟩:=by
        intro n;unfold Addr.add;split
        ·rename_i h;subst h;rfl
        ·rfl
       have hadd2: ∀n m,(⟨b,off+n,none⟩:Addr).add m=⟨b,off+n+m,none⟩:=by
        intro n m;unfold Addr.add;split
        ·rename_i h;subst h;rfl
        ·rfl
       have key: ∀i,i<len→ ∃(as:List AV) (cs:List Value),zC P d e as∧as.length=P.cellsOf e∧qab w ow as cs∧(∀(j:Nat) v,cs[j]? =some v→w.cell? ⟨b,off+i*P.cellsOf e+j,none⟩=some v):=by
        intro i hi
        obtain ⟨x,hx⟩:=all i (by omega)
        rw [Option.bind_eq_some_iff]at hx
        obtain ⟨cs,h3,h4⟩:=hx
        obtain ⟨as,f1,f2,f3⟩:=ih fuel e cs x.1 x.2 hk h4
        rw [hadd]at h3
        unfold World.cells? at h3
        rw [if_pos (Nat.zero_le _)]at h3
        obtain ⟨n1,n2⟩:=qa4 h3
        simp only [List.length_range]at n1
        refine ⟨as,cs,f1,f2,f3,fun j v hj=> ?_⟩
        have hjl:j<P.cellsOf e:=by have:=(List.getElem?_eq_some_iff.1 hj).1;omega
        have:=n2 j j v (by simp [hjl]) hj
        rw [hadd2]at this
        exact this
       have ex: ∃g:Nat→List AV×List Value,∀i,i<len→zC P d e (g i).1∧(g i).1.length=P.cellsOf e∧qab w ow (g i).1 (g i).2∧(∀(j:Nat) v,(g i).2[j]? =some v→w.cell? ⟨b,off+i*P.cellsOf e+j,none⟩=some v):=by
        refine ⟨fun i=>if hi:i<len then ((key i hi).choose,(key i hi).choose_spec.choose) else ([],[]),fun i hi=> ?_⟩
        simp only [dif_pos hi]
        exact (key i hi).choose_spec.choose_spec
       obtain ⟨g,hg⟩:=ex
       refine ⟨[.sl len fun i=>(g i).1],⟨len,fun i=>(g i).1,rfl,Nat.le_trans c1 c2,fun i hi=>(hg i hi).1⟩,hc.symm,qab.single rfl (.sl (P.cellsOf e) b off cap (fun i j=>(g i).2.getD j Go.undef) c1 c2 (fun _=>how b) hlt (fun i hi=>(hg i hi).2.1) (fun i j hi hj=> ?_) (fun i j hi hj=> ?_) (fun i j c hi hc=> ?_))⟩
       ·obtain ⟨_,q2,q3,q4⟩:=hg i hi
        have hl:=q3.len
        have e:(g i).2[j]? =some (g i).2[j]:=List.getElem?_eq_getElem (by omega)
        rw [q4 j _ e,List.getD_eq_getElem?_getD,e];rfl
       ·obtain ⟨_,q2,q3,q4⟩:=hg i hi
        have hl:=q3.len
        have e:(g i).2[j]? =some (g i).2[j]:=List.getElem?_eq_getElem (by omega)
        rw [List.getD_eq_getElem?_getD,e];exact q3.one j _ e
       ·obtain ⟨_,q2,q3,q4⟩:=hg i hi
        have hl:=q3.len
        have hj:=(List.getElem?_eq_some_iff.1 hc).1
        have e:(g i).2[j]? =some (g i).2[j]:=List.getElem?_eq_getElem (by omega)
        rw [List.getD_eq_getElem?_getD,e];exact q3.vi j c _ hc e
     ·cases h
  ·rename_i fs ht
   simp only [Bool.and_eq_true,decide_eq_true_eq,List.all_eq_true]at hk
   obtain ⟨htile,hk⟩:=hk
   cases fuel with
   |zero=>simp [DataW.trod]at h
   |succ fuel=>
    simp only [DataW.trod,ht]at h
    split at h
    ·rename_i hcl
     rw [Option.map_eq_some_iff]at h
     obtain ⟨xs,hm,_⟩:=h
     obtain ⟨_,as,g1,g2,g3⟩:=qfk (fun t cs dd ps=>ih fuel t cs dd ps) fs.toList 0 (P.cellsOf t) xs htile hk (by omega) hm
     rw [Nat.sub_zero]at g2 g3
     rw [List.drop_zero,List.take_of_length_le (by omega)]at g3
     exact ⟨as,⟨g2,fun f hf=>by have:=(g1 f hf).2;rwa [Nat.sub_zero]at this⟩,g2,g3⟩
    ·cases h
  ·cases hk
theorem qpr (how: ∀b,¬ow b) {d:Nat} {t:TypeId} {cs:Array Value} {dd:DataW H} {ps:List MemPlace} (hk:qbQ P d t=true) (h:DataW.Trod enc P w 0 (fun _=>true) held t (.agg cs) dd ps): ∃as,zC P d t as∧VI w ow (.agg as) (.agg cs):=by
 obtain ⟨fuel,h⟩:=h
 obtain ⟨as,g1,g2,g3⟩:=qkk how d fuel t _ dd ps hk h
 refine ⟨as,g1,.agg ?_ (fun i x hx=>g3.one i x ?_) (fun i c x hc hx=>g3.vi i c x hc ?_)⟩
 ·have:=g3.len;simpa [Value.cells] using this
 ·simpa [Value.cells] using hx
 ·simpa [Value.cells] using hx
end
end AF
end
section
namespace AF
open Go
def zT (v:Nat) (ty:TypeId) (cs:List AV):AObj:=if cs= [] then .emp v else .mem v ty cs
section
variable {h l : List AObj} {k v w n c : Nat} {ty : TypeId} {cs ms : List AV} {a : AV} {o : AObj}
theorem jw (h:cs≠ []):zT v ty cs= .mem v ty cs:=if_neg h
theorem verOf_own:qu (some (zT v ty cs))=v:=by unfold zT;split<;>rfl
theorem site_own0:qI (zT v ty cs::l) 0=true:=by unfold zT;split<;>rfl
theorem liveS_own0:zA (zT v ty cs::l) 0 w=(v==w):=by unfold zT;split<;>rfl
theorem tyOk_own:qnm (some (zT v ty cs)) ty=true:=by
 unfold zT
 split
 ·rfl
 ·simp [qnm]
theorem cells_own0:((cellsOf (zT v ty cs::l) 0 v).getD [])=cs:=by
 unfold zT
 split
 ·rename_i e;rw [e];rfl
 ·rw [cellsOf_0,if_pos rfl];rfl
theorem cellsS_own0:((cellsOf (zT v ty cs::l) 0 v).isSome=true)=(cs≠ []):=by
 unfold zT
 split
 ·rename_i e;rw [e];simp [cellsOf,qG]
 ·rename_i e;rw [cellsOf_0,if_pos rfl];simp [e]
theorem qnw {b:AV}:qg2 (some (zT v ty cs)) ty w c (n+1) (b::ms)=zT (w+1) ty (cs.take c++b::ms):=by
 rw [show zT (w+1) ty (cs.take c++b::ms)= .mem (w+1) ty (cs.take c++b::ms)from jw (by simp)]
 unfold zT
 split
 ·rename_i e
  rw [e]
  simp [qg2]
 ·rfl
theorem appO_own1 {b:AV}:qg2 (some (zT v ty cs)) ty w c 1 (b::ms)=zT (w+1) ty (cs.take c++b::ms):=qnw (n:=0)
end
attribute [go_sem] verOf_own site_own0 liveS_own0 tyOk_own cells_own0 cellsS_own0 appO_own1
end AF
end
section
namespace AF
open Go
def LowI (h hh:List AObj):Prop:=hh.length=h.length∧ ∀o∈hh,o∈h∨(kX h.length o∧kX (h.length+1) o)
theorem LowI.refl (h:List AObj):LowI h h:=⟨rfl,fun _ ho=> .inl ho⟩
theorem km {hh tl:List AObj} {o:AObj} {k:Nat} (h:hh.length=k):qG k (hh++o::tl)=some o:=by subst h;exact getO_app0
theorem qbV {hh tl:List AObj} {o o':AObj} {k:Nat} (h:hh.length=k):qQ k (hh++o::tl) o'=hh++o'::tl:=by subst h;exact setO_app0
def quA (P:Program) (f:FuncId) (cap:List AV) (xs:List (List AV)):Prop:=
 ∀(h:List AObj) (ts:List AV) (L:LInfo) (S:Nat→List AObj→Prop) (E:LS→List AObj→Prop),
  (∀i hh,S i hh→LowI h hh)→(∀s hh,E s hh→LowI h hh)→
  (∀i hh tl,(hi:i<xs.length)→S i hh→kh P h.length (xs[i]) (hh++ .lp .ready ts L::tl) (fun r h'=> ∃hh',(r= .bool true∧S (i+1) hh'∧h'=hh'++ .lp .ready ts L::tl)∨(∃s,r= .bool false∧E s hh'∧h'=hh'++ .lp s ts L::tl)))→
  S 0 h→(∀c∈ts,jg (h.length+1) c=true)→
  jJ P f (.yld h.length::cap) (h++ [.lp .ready ts L]) (fun _ h'=> ∃hh,(S xs.length hh∧h'=hh++ [.lp .ready ts L])∨ ∃s,E s hh∧h'=hh++ [.lp s ts L])
theorem qhN {P:Program} {f:FuncId} {cap:List AV} {xs:List (List AV)} (hf:quA P f cap xs) {ps:List Nat} {b:Nat} {x y:C} {Q:Ex→Nx} {ts:List AV} {h:List AObj} (hps: ∀a∈xs,a.length=ps.length)
  (S:Nat→List AObj→Prop) (E:Ex→List AObj→Prop) (hS: ∀i hh,S i hh→LowI h hh) (hE: ∀s hh,E s hh→LowI h hh)
  (start:S 0 h) (hts: ∀c∈ts,jg (h.length+1) c=true)
  (body: ∀i hh tl L,(hi:i<xs.length)→S i hh→hh.length=h.length→
   qW P b x (fun e t2 h2=>e= .normal∧h2=hh++ .lp .ready ts L::tl∧
    qW P b y (fun e t3 h3=> ∃hh',h3=hh'++ .lp .busy ts L::tl∧hh'.length=h.length∧match e with
     | .normal=>S (i+1) hh'
     | .ret=>E .ret hh'
     | .exit id=>E (.exit id) hh') t2 (hh++ .lp .busy ts L::tl)) (qb1 ts ps (xs[i])) (hh++ .lp .ready ts L::tl))
  (done: ∀hh,S xs.length hh→Q .normal ts hh) (doneE: ∀e hh,E e hh→match e with
   | .normal=>False
   |e=>Q e ts hh):
  qeF P (.fn (.func f) [] cap) ps (qW P b x) (qW P b y) Q ts h:=by
 intro L hy
 show jJ _ _ _ _ _
 have key:=hf h ts L S (fun s hh=>match s with
  | .ret=>E .ret hh
  | .exit id=>E (.exit id) hh
  |_=>False) hS
  (by
   intro s hh hs
   cases s with
   |ret=>exact hE _ _ hs
   |exit id=>exact hE _ _ hs
   |ready=>exact hs.elim
   |busy=>exact hs.elim)
  (by
   intro i hh tl hi i4
   have hlen:=(hS _ _ i4).1
   refine hy h.length ts _ _ _ (km hlen) (hps _ (List.getElem_mem hi)) ?_
   have hb:=body i hh tl L hi i4 hlen
   refine qan ?_ hb
   rintro e t2 h2 ⟨rfl,rfl,h3⟩
   refine ⟨rfl,⟨ts,km hlen⟩,fun ts' hts'=> ?_⟩
   rw [km hlen]at hts'
   cases hts'
   rw [qbV hlen]
   refine qan ?_ h3
   rintro e t3 h3' ⟨hh',rfl,g1,g2⟩
   refine ⟨ts,km g1,?_⟩
   cases e with
   |normal=>exact ⟨hh',.inl ⟨rfl,g2,qbV g1⟩⟩
   |ret=>exact ⟨hh',.inr ⟨.ret,rfl,g2,qbV g1⟩⟩
   |exit id=>exact ⟨hh',.inr ⟨.exit id,rfl,g2,qbV g1⟩⟩)
  start hts
 refine key.le (qbi.refl _) ?_
 rintro v h' ⟨hh,⟨g1,rfl⟩|⟨s,g1,rfl⟩⟩
 ·have hl:=hS _ _ g1
  exact ⟨v,VLe.refl _,hh,.ready,ts,L,rfl,hl.1,fun o ho=>(hl.2 o ho).imp (fun h=>h) And.left,done hh g1⟩
 ·cases s with
  |ready=>exact g1.elim
  |busy=>exact g1.elim
  |ret=>
   have hl:=hE _ _ g1
   exact ⟨v,VLe.refl _,hh,.ret,ts,L,rfl,hl.1,fun o ho=>(hl.2 o ho).imp (fun h=>h) And.left,doneE _ _ g1⟩
  |exit id=>
   have hl:=hE _ _ g1
   exact ⟨v,VLe.refl _,hh,.exit id,ts,L,rfl,hl.1,fun o ho=>(hl.2 o ho).imp (fun h=>h) And.left,doneE _ _ g1⟩
theorem qow {rs:List RV} {h0 h':List AObj} {K:AV→List AObj→Prop} {t:List AV} {r:AV} (hok:kf t h' rs) (hl:h'.length=h0.length) (hlow: ∀o∈h',o∈h0∨kX h0.length o) (hK:K r h')
  (hv:VLe (frz (fun k=>decide (h0.length≤k)) h' 8 (qhR (zX t h' rs))) r):fnQ rs h0 K .ret t h':=
 ⟨r,h',hK,hok,⟨[],(List.append_nil _).symm⟩,hl,hlow,VOut.of 8 hv⟩
theorem kl {rs:List RV} {h0 h':List AObj} {K:AV→List AObj→Prop} {t:List AV} {r:AV} (hok:kf t h' rs) (hl:h'.length=h0.length) (hlow: ∀o∈h',o∈h0∨kX h0.length o) (hK:K r h')
  (hv:VLe (frz (fun k=>decide (h0.length≤k)) h' 8 (qhR (zX t h' rs))) r):fnQ rs h0 K .normal t h':=
 ⟨r,h',hK,hok,⟨[],(List.append_nil _).symm⟩,hl,hlow,VOut.of 8 hv⟩
end AF
end
section
namespace AF
open Go
section
variable {P : Program} {b : Nat} {r : List RO} {K : Nx} {t : List AV} {h : List AObj} {xs : List X}
theorem qAS {d:Nat}:opsA P b (⟨some d,none,.b2s,xs⟩::r) K t h=(flags (evs t xs)∧okL h .b2s (strips (evs t xs))∧opsA P b r K (zy d t (valL h .b2s (strips (evs t xs)))) h):=by simp only [opsA,stepO,stepA,R.kd,qL]
theorem qy8 {d j:Nat} {u:Bool}:opsA P b (⟨some d,some (j,u),.b2s,xs⟩::r) K t h=(qH (qO j t)=true∧(qv (qO j t) u=true→flags (evs t xs)∧okL h .b2s (strips (evs t xs)))∧opsA P b r K (zy d t (.gd (qv (qO j t) u) (valL h .b2s (strips (evs t xs))))) h):=by simp only [opsA,stepO,zS,R.kd,qL]
theorem qA0 {d:Option Nat}:opsA P b (⟨d,none,.s2b,xs⟩::r) K t h=(flags (evs t xs)∧effE b h .s2b (strips (evs t xs)) t d (opsA P b r K)):=by simp only [opsA,stepO,stepA,R.kd]
theorem qzM {nx:List AV→List AObj→Prop} {d:Option Nat} {s:List UInt8}:effE b h .s2b [.str s] t d nx=((s.length:Int)≤140737488355328∧nx (qL t d (.sl s.length fun i=> [.int .u8 ((s.getD i 0).toNat:Int)])) h):=(rfl)
end
theorem w_s2bo {P:Program} {b:Nat} {r:List RO} {K:Nx} {t:List AV} {h:List AObj} {xs:List X} {d:Option Nat} {j:Nat} {ty:TypeId}:opsA P b (⟨d,none,.s2bo j ty,xs⟩::r) K t h=(flags (evs t xs)∧effE b h (.s2bo j ty) (strips (evs t xs)) t d (opsA P b r K)):=by simp only [opsA,stepO,stepA,R.kd]
theorem qv6 {b:Nat} {t:List AV} {h:List AObj} {nx:List AV→List AObj→Prop} {d:Option Nat} {s:List UInt8} {j:Nat} {ty:TypeId}:effE b h (.s2bo j ty) [.str s] t d nx=((qI h (b+j)=true∧(s.length:Int)≤140737488355328)∧nx (qL t d (.osl (b+j) (qu (qG (b+j) h)+1) 1 0 s.length)) (qQ (b+j) h (.mem (qu (qG (b+j) h)+1) (ty+qa6) (jh s)))):=(rfl)
attribute [go_sem] w_s2bo qv6
theorem qjG (c:UInt8):qaB (.int .u8 (c.toNat:Int))=c:=by simp [qaB]
theorem qk4 (c:UInt8):qc6 (.int .u8 (c.toNat:Int)):=by
 have:=c.toNat_lt
 exact ⟨by omega,by omega⟩
theorem qf1 {g:List AObj} {s:List UInt8}:valL g .b2s [.sl s.length fun i=> [.int .u8 ((s.getD i 0).toNat:Int)]]= .str s:=by
 show AV.str ((List.range s.length).map fun i=>qaB (.int .u8 ((s.getD i 0).toNat:Int)))=_
 congr 1
 apply List.ext_getElem
 ·simp
 ·intro i h1 h2
  simp only [List.getElem_map,List.getElem_range,qjG]
  rw [List.getD_eq_getElem?_getD,List.getElem?_eq_getElem h2];rfl
theorem qhI {g:List AObj} {s:List UInt8}:okL g .b2s [.sl s.length fun i=> [.int .u8 ((s.getD i 0).toNat:Int)]]=True:=eq_true (fun i _=>qk4 _)
theorem qf0 {g:List AObj}:valL g .b2s [.nl]= .str []:=rfl
theorem qhH {g:List AObj}:okL g .b2s [.nl]=True:=rfl
theorem qeU {g:List AObj} {k v z p n:Nat}:valL g .b2s [.osl k v z p n]= .str (((((cellsOf g k v).getD []).drop p).take n).map qaB):=rfl
theorem qft {g:List AObj} {k v z p n:Nat}:okL g .b2s [.osl k v z p n]=(zA g k v=true∧z=1∧p+n≤((cellsOf g k v).getD []).length∧ ∀c∈((((cellsOf g k v).getD []).drop p).take n),qc6 c):=rfl
theorem qtv {x:AV} {q:Bool}:jx (.bool false) x (.bool q)= .bool q:=by
 unfold jx
 simp only [AV.strip,qaU]
 split
 ·rename_i p' q' h1 h2
  cases h2
  simp
 ·simp
theorem qtw {y:AV} {p:Bool}:jx (.bool true) (.bool p) y= .bool p:=by
 unfold jx
 simp only [AV.strip,qaU]
 split
 ·rename_i p' q' h1 h2
  cases h1
  simp
 ·simp
attribute [go_sem] qtv qtw
theorem qy {P:Program} {f:Nat} {first cap args:List AV} {d:Option Nat} {nx:Nx} {t:List AV} {h:List AObj} {v:AV} (hc:ACalls P f (first++args++cap) h v h) (hn:nx (qL t d v) h):qbZ P (.fn (.func f) first cap::args) d nx t h:=⟨v,h,hc,hn⟩
attribute [go_sem] qAS qy8 qA0 qzM qf1 qhI qf0 qhH qeU qft
end AF
end
section
namespace AF
open Go
section
variable {P : Program} {b : Nat} {r : List RO} {K : Nx} {t : List AV} {h : List AObj} {xs : List X}
theorem qAV {d:Nat}:opsA P b (⟨some d,none,.cap,xs⟩::r) K t h=(flags (evs t xs)∧okL h .cap (strips (evs t xs))∧opsA P b r K (zy d t (valL h .cap (strips (evs t xs)))) h):=by simp only [opsA,stepO,stepA,R.kd,qL]
theorem qyw {d:Option Nat} {j z m:Nat} {ty:TypeId} {zs:List AV}:opsA P b (⟨d,none,.appz j z ty zs m,xs⟩::r) K t h=(flags (evs t xs)∧effE b h (.appz j z ty zs m) (strips (evs t xs)) t d (opsA P b r K)):=by simp only [opsA,stepO,stepA,R.kd]
theorem qv3 {nx:List AV→List AObj→Prop} {d:Option Nat} {j sz:Nat} {ty:TypeId} {z:List AV} {bytes:Nat} {n:Int}:effE b h (.appz j sz ty z bytes) [.nl,.int .i64 n] t d nx=((qI h (b+j)=true∧z.length=sz∧0<n∧n*(bytes:Int)≤140737488355328∧n≤140737488355328)∧
   nx (qL t d (.osl (b+j) (qu (qG (b+j) h)+1) sz 0 n.toNat)) (qQ (b+j) h (.mem (qu (qG (b+j) h)+1) ty (zu z n.toNat)))):=(rfl)
end
theorem valL_capnl {g:List AObj}:valL g .cap [.nl]= .int .i64 0:=rfl
theorem qlj {g:List AObj}:okL g .cap [.nl]=True:=rfl
theorem qiw {g:List AObj} {z:Nat} {lo hi:Bool} {bs:List AV}:valL g (.slc z lo hi) (.nl::bs)= .nl:=rfl
theorem qfu {g:List AObj} {z:Nat} {k:IntKind} {c:Int}:okL g (.slc z false true) [.nl,.int k c]=(c=0):=by
 simp [okL,loB,hiB,qar]
 omega
theorem qez {g:List AObj} {z:Nat} {k m:IntKind} {a c:Int}:okL g (.slc z true true) [.nl,.int m a,.int k c]=(a=0∧c=0):=by
 simp [okL,loB,hiB,qar]
 omega
theorem qfv {g:List AObj} {z:Nat} {m:IntKind} {a:Int}:okL g (.slc z true false) [.nl,.int m a]=(a=0):=by
 simp [okL,loB,hiB,qar]
 omega
attribute [go_sem] qAV qyw qv3 valL_capnl qlj qiw qfu qez qfv
end AF
end
section
namespace AF
open Go
section
variable {P : Program} {b : Nat} {K : Nx} {t : List AV} {h : List AObj}
theorem t_nil:qby P b .nil K t h=K t h:=(rfl)
theorem t_one {o:RO} {r:DT}:qby P b (.one o r) K t h=opsA P b [o] (qby P b r K) t h:=(rfl)
theorem t_two {x y:DT}:qby P b (.two x y) K t h=(qby P b x K t h∧qby P b y K t h):=(rfl)
theorem t_univ {r:DT} {d:Option Nat} {xs:List X}:qby P b (.uni ⟨d,none,.callv,xs⟩ r) K t h=qqv P (evs t xs) d (qby P b r K) t h:=(rfl)
theorem t_uni {r:DT} {d:Option Nat} {f:Nat} {p:Bool} {xs:List X}:qby P b (.uni ⟨d,none,.call f p,xs⟩ r) K t h=qnM P f (evs t xs) d (qby P b r K) t h:=(rfl)
theorem tg_uni {r:DT} {d:Option Nat} {f:Nat} {p:Bool} {xs:List X} {j:Nat} {u:Bool}:qby P b (.uni ⟨d,some (j,u),.call f p,xs⟩ r) K t h=(qH (qO j t)=true∧qqu P f (qv (qO j t) u) (evs t xs) d (qby P b r K) t h):=(rfl)
theorem qsn {d:DT} {Q:Ex→Nx} (T:List AV) (H:List AObj) (h1:qby P b d (fun t' h'=>t'=T∧h'=H) t h) (h2:Q .normal T H):qW P b (.draw d) Q t h:=
 ⟨_,h1,fun t' h' ⟨e1,e2⟩=>by subst e1;subst e2;exact h2⟩
theorem qR {f:Nat} {vs:List AV} {d:Option Nat} {nx:Nx} {r:AV} (hc: ∀h0,ACalls P f (strips vs) h0 r h0) (hf:flags vs) (hn:nx (qL t d r) h):qnM P f vs d nx t h:=⟨hf,r,hc,hn⟩
end
attribute [go_sem] t_univ t_nil t_one t_two t_uni tg_uni
end AF
end
section
namespace AF
open Go
section
variable {P : Program} {b : Nat} {r : List RO} {K : Nx} {t : List AV} {h l : List AObj} {xs : List X} {ks : AK} {ok : Bool} {z : AV} {d : Option Nat} {nx : List AV → List AObj → Prop}
theorem w_mlk {d:Nat}:opsA P b (⟨some d,none,.mlk ks ok z,xs⟩::r) K t h=(flags (evs t xs)∧okL h (.mlk ks ok z) (strips (evs t xs))∧opsA P b r K (zy d t (valL h (.mlk ks ok z) (strips (evs t xs)))) h):=by simp only [opsA,stepO,stepA,R.kd,qL]
theorem wg_mlk {d j:Nat} {u:Bool}:opsA P b (⟨some d,some (j,u),.mlk ks ok z,xs⟩::r) K t h=(qH (qO j t)=true∧(qv (qO j t) u=true→flags (evs t xs)∧okL h (.mlk ks ok z) (strips (evs t xs)))∧opsA P b r K (zy d t (.gd (qv (qO j t) u) (valL h (.mlk ks ok z) (strips (evs t xs))))) h):=by simp only [opsA,stepO,zS,R.kd,qL]
theorem w_mkmap {j:Nat}:opsA P b (⟨d,none,.mkmap j,xs⟩::r) K t h=(flags (evs t xs)∧effE b h (.mkmap j) (strips (evs t xs)) t d (opsA P b r K)):=by simp only [opsA,stepO,stepA,R.kd]
theorem w_mupd:opsA P b (⟨d,none,.mupd ks,xs⟩::r) K t h=(flags (evs t xs)∧effE b h (.mupd ks) (strips (evs t xs)) t d (opsA P b r K)):=by simp only [opsA,stepO,stepA,R.kd]
theorem w_ment:opsA P b (⟨d,none,.ment ks z,xs⟩::r) K t h=(flags (evs t xs)∧effE b h (.ment ks z) (strips (evs t xs)) t d (opsA P b r K)):=by simp only [opsA,stepO,stepA,R.kd]
theorem w_msto:opsA P b (⟨d,none,.msto,xs⟩::r) K t h=(flags (evs t xs)∧effE b h .msto (strips (evs t xs)) t d (opsA P b r K)):=by simp only [opsA,stepO,stepA,R.kd]
theorem w_clr {sz:Nat} {zs:List AV}:opsA P b (⟨d,none,.clr sz zs,xs⟩::r) K t h=(flags (evs t xs)∧effE b h (.clr sz zs) (strips (evs t xs)) t d (opsA P b r K)):=by simp only [opsA,stepO,stepA,R.kd]
theorem e_ment {k ver:Nat} {x:AV}:effE b h (.ment ks z) [.mp k ver,x] t d nx=(((zg h k ver).isSome=true∧okK ks x∧(qa7 ks x ((zg h k ver).getD []) 0).isSome=true)∧
  nx (qL t d (.tup [(qev ks x z ((zg h k ver).getD [])).1,.int .i64 (qgx ks x ((zg h k ver).getD []))])) (qQ k h (.map ver (qq6 ks x (qev ks x z ((zg h k ver).getD [])).1 ((zg h k ver).getD []))))):=(rfl)
theorem e_msto {k ver:Nat} {n:Int} {v:AV}:effE b h .msto [.mp k ver,.int .i64 n,v] t d nx=(((zg h k ver).isSome=true∧0≤n∧n.toNat<((zg h k ver).getD []).length)∧
  nx (qL t d (.tup [])) (qQ k h (.map ver (qld n.toNat v ((zg h k ver).getD []))))):=(rfl)
theorem e_clr {sz sz' k ver off m:Nat} {zs:List AV}:effE b h (.clr sz zs) [.osl k ver sz' off m] t d nx=((zA h k ver=true∧(cellsOf h k ver).isSome=true∧zs.length=sz∧sz'=sz∧off+m*sz≤((cellsOf h k ver).getD []).length)∧
  nx (qL t d (.tup [])) (qQ k h (.mem ver (qp5 (qG k h)) (((cellsOf h k ver).getD []).take off++zu zs m++((cellsOf h k ver).getD []).drop (off+m*sz))))):=(rfl)
theorem e_mkmap {j:Nat}:effE b h (.mkmap j) [] t d nx=(qI h (b+j)=true∧nx (qL t d (.mp (b+j) (qu (qG (b+j) h)+1))) (qQ (b+j) h (.map (qu (qG (b+j) h)+1) []))):=(rfl)
theorem e_mupd {k ver:Nat} {x v:AV}:effE b h (.mupd ks) [.mp k ver,x,v] t d nx=(((zg h k ver).isSome=true∧okK ks x∧(qa7 ks x ((zg h k ver).getD []) 0).isSome=true)∧
  nx (qL t d (.tup [])) (qQ k h (.map ver (qq6 ks x v ((zg h k ver).getD []))))):=(rfl)
end
section
variable {h l : List AObj} {ks : AK} {ok : Bool} {z x : AV} {k ver n v w : Nat} {es : List (AV × AV)} {o : AObj}
theorem valL_mlk_t:valL h (.mlk ks true z) [.mp k ver,x]= .tup [(qev ks x z ((zg h k ver).getD [])).1,.bool (qev ks x z ((zg h k ver).getD [])).2]:=rfl
theorem valL_mlk_f:valL h (.mlk ks false z) [.mp k ver,x]=(qev ks x z ((zg h k ver).getD [])).1:=rfl
theorem okL_mlk:okL h (.mlk ks ok z) [.mp k ver,x]=((zg h k ver).isSome=true∧okK ks x∧(qa7 ks x ((zg h k ver).getD []) 0).isSome=true):=rfl
theorem mapOf_app:zg (h++l) (h.length+n) v=zg l n v:=by unfold zg;rw [getO_app];rfl
theorem mapOf_app0:zg (h++l) h.length v=zg l 0 v:=by unfold zg;rw [getO_app0];rfl
theorem mapOf_0:zg (.map w es::l) 0 v=if w=v then some es else none:=rfl
theorem mapOf_s:zg (o::l) (n+1) v=zg l n v:=rfl
theorem site_0_map:qI (.map v es::l) 0=true:=rfl
theorem verOf_map:qu (some (.map v es))=v:=rfl
theorem strip_mp:(AV.mp k v).strip=AV.mp k v:=rfl
theorem flag_mp:(AV.mp k v).flag=true:=rfl
theorem solid_mp:(AV.mp k v).solid=true:=rfl
theorem cells_mp:(AV.mp k v).cells= [AV.mp k v]:=rfl
theorem okK_str {s:List UInt8}:okK .str (.str s)=True:=rfl
theorem okK_int {q:IntKind} {i:Int}:okK .int (.int q i)=True:=rfl
theorem okK_bool {q:Bool}:okK .bool (.bool q)=True:=rfl
theorem frz_mp {fz:Nat→Bool}:frz fz h (n+1) (.mp k v)=if fz k then .undef else .mp k v:=rfl
end
attribute [go_sem] w_ment w_msto w_clr e_ment e_msto e_clr w_mlk wg_mlk w_mkmap w_mupd e_mkmap e_mupd valL_mlk_t valL_mlk_f okL_mlk mapOf_app mapOf_app0 mapOf_0 mapOf_s site_0_map verOf_map strip_mp flag_mp solid_mp cells_mp okK_str okK_int okK_bool frz_mp
section
variable {P : Program} {b : Nat} {r : List RO} {K : Nx} {t : List AV} {h : List AObj} {xs : List X} {d : Nat}
theorem qyE {z:Nat}:opsA P b (⟨some d,none,.idxI z,xs⟩::r) K t h=(flags (evs t xs)∧okP (.idxI z) (strips (evs t xs))∧opsA P b r K (zy d t (valP (.idxI z) (strips (evs t xs)))) h):=by simp only [opsA,stepO,stepA,R.kd,qL]
theorem qyC {z:Nat}:opsA P b (⟨some d,none,.fldI z,xs⟩::r) K t h=(flags (evs t xs)∧okP (.fldI z) (strips (evs t xs))∧opsA P b r K (zy d t (valP (.fldI z) (strips (evs t xs)))) h):=by simp only [opsA,stepO,stepA,R.kd,qL]
theorem que {z:Option Nat}:opsA P b (⟨some d,none,.loadI z,xs⟩::r) K t h=(flags (evs t xs)∧okP (.loadI z) (strips (evs t xs))∧opsA P b r K (zy d t (valP (.loadI z) (strips (evs t xs)))) h):=by simp only [opsA,stepO,stepA,R.kd,qL]
end
theorem valP_idxI {z n:Nat} {f:Nat→List AV} {k:IntKind} {i:Int}:valP (.idxI z) [.sl n f,.int k i]= .ip (f i.toNat):=rfl
theorem qo8 {z n:Nat} {f:Nat→List AV} {k:IntKind} {i:Int}:okP (.idxI z) [.sl n f,.int k i]=((0≤i∧i<n)∧(f i.toNat).length=z):=rfl
theorem qm0 {z:Nat} {cs:List AV}:valP (.fldI z) [.ip cs]= .ip (cs.drop z):=rfl
theorem qo7 {z:Nat} {cs:List AV}:okP (.fldI z) [.ip cs]=(z<cs.length):=rfl
theorem qiz {z:Option Nat} {cs:List AV}:valP (.loadI z) [.ip cs]=cut cs 0 z:=rfl
theorem qls {z:Option Nat} {cs:List AV}:okP (.loadI z) [.ip cs]=jb cs 0 z:=rfl
attribute [go_sem] qyE qyC que valP_idxI qo8 qm0 qo7 qiz qls
end AF
end
theorem gdqA {α:Type _} {l:List α} {i:Nat} {a:α}:l.getD i a=l[i]?.getD a:=List.getD_eq_getElem?_getD
theorem zD {α:Type _} {l:List α} {i:Nat} (h:i<l.length):l[i]? =some l[i]:=List.getElem?_eq_getElem h
