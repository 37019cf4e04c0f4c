import Derived.Test.YtgoandblgcjleaaGreatDoorK2
import Derived.Test.YtgoandblgcjleaaGreatDoorK3
import Derived.Below
import Derived.ChangeSame
import Derived.ChangeShapes
import Derived.CallsIn
import Derived.Carry
import Derived.RowKit
import Derived.WalkKit
import Derived.ProofKit
set_option linter.all false
set_option linter.unusedSimpArgs false
set_option linter.unusedVariables false
set_option linter.unusedSectionVars false
section
namespace AF
open Go
set_option maxRecDepth 4000
def qBd (k:IntKind) (a c:Int):Int:=k.wrap (a*2^(min c.toNat k.bits))
def qz3 (k:IntKind) (a c:Int):Int:=a.fdiv (2^(min c.toNat k.bits))
def qr6 (k:IntKind) (a c:Int):Int:=k.wrap (BitVec.ofInt k.bits a&&&BitVec.ofInt k.bits c).toNat
def orK (k:IntKind) (a c:Int):Int:=k.wrap (BitVec.ofInt k.bits a|||BitVec.ofInt k.bits c).toNat
def qDB (k:IntKind) (a c:Int):Int:=k.wrap (BitVec.ofInt k.bits a^^^BitVec.ofInt k.bits c).toNat
def qfb (k:IntKind) (a c:Int):Int:=k.wrap (BitVec.ofInt k.bits a&&& ~~~ BitVec.ofInt k.bits c).toNat
theorem qxS {a0:AV} {r:List AV}:qS 0 (a0::r)=a0:=rfl
theorem qyy {a0 v:AV} {r:List AV}:zG 0 (a0::r) v=v::r:=rfl
theorem qxT {a0 a1:AV} {r:List AV}:qS 1 (a0::a1::r)=a1:=rfl
theorem qyz {a0 a1 v:AV} {r:List AV}:zG 1 (a0::a1::r) v=a0::v::r:=rfl
theorem qxU {a0 a1 a2:AV} {r:List AV}:qS 2 (a0::a1::a2::r)=a2:=rfl
theorem qyA {a0 a1 a2 v:AV} {r:List AV}:zG 2 (a0::a1::a2::r) v=a0::a1::v::r:=rfl
theorem qxV {a0 a1 a2 a3:AV} {r:List AV}:qS 3 (a0::a1::a2::a3::r)=a3:=rfl
theorem qyB {a0 a1 a2 a3 v:AV} {r:List AV}:zG 3 (a0::a1::a2::a3::r) v=a0::a1::a2::v::r:=rfl
theorem qxW {a0 a1 a2 a3 a4:AV} {r:List AV}:qS 4 (a0::a1::a2::a3::a4::r)=a4:=rfl
theorem qyC {a0 a1 a2 a3 a4 v:AV} {r:List AV}:zG 4 (a0::a1::a2::a3::a4::r) v=a0::a1::a2::a3::v::r:=rfl
theorem qxX {a0 a1 a2 a3 a4 a5:AV} {r:List AV}:qS 5 (a0::a1::a2::a3::a4::a5::r)=a5:=rfl
theorem qyD {a0 a1 a2 a3 a4 a5 v:AV} {r:List AV}:zG 5 (a0::a1::a2::a3::a4::a5::r) v=a0::a1::a2::a3::a4::v::r:=rfl
theorem qxY {a0 a1 a2 a3 a4 a5 a6:AV} {r:List AV}:qS 6 (a0::a1::a2::a3::a4::a5::a6::r)=a6:=rfl
theorem qyE {a0 a1 a2 a3 a4 a5 a6 v:AV} {r:List AV}:zG 6 (a0::a1::a2::a3::a4::a5::a6::r) v=a0::a1::a2::a3::a4::a5::v::r:=rfl
theorem qxZ {a0 a1 a2 a3 a4 a5 a6 a7:AV} {r:List AV}:qS 7 (a0::a1::a2::a3::a4::a5::a6::a7::r)=a7:=rfl
theorem qyF {a0 a1 a2 a3 a4 a5 a6 a7 v:AV} {r:List AV}:zG 7 (a0::a1::a2::a3::a4::a5::a6::a7::r) v=a0::a1::a2::a3::a4::a5::a6::v::r:=rfl
theorem qtt {n:Nat} {a0 a1 a2 a3 a4 a5 a6 a7:AV} {r:List AV}:qS (n+8) (a0::a1::a2::a3::a4::a5::a6::a7::r)=qS n r:=rfl
theorem qun {n:Nat} {a0 a1 a2 a3 a4 a5 a6 a7 v:AV} {r:List AV}:zG (n+8) (a0::a1::a2::a3::a4::a5::a6::a7::r) v=a0::a1::a2::a3::a4::a5::a6::a7::zG n r v:=rfl
theorem qph {n:Nat} {a0 a1 a2 a3 a4 a5 a6 a7 a8 a9 a10 a11 a12 a13 a14 a15 a16 a17 a18 a19 a20 a21 a22 a23 a24 a25 a26 a27 a28 a29 a30 a31:AV} {r:List AV}:qS (n+32) (a0::a1::a2::a3::a4::a5::a6::a7::a8::a9::a10::a11::a12::a13::a14::a15::a16::a17::a18::a19::a20::a21::a22::a23::a24::a25::a26::a27::a28::a29::a30::a31::r)=qS n r:=rfl
theorem qqf {n:Nat} {a0 a1 a2 a3 a4 a5 a6 a7 a8 a9 a10 a11 a12 a13 a14 a15 a16 a17 a18 a19 a20 a21 a22 a23 a24 a25 a26 a27 a28 a29 a30 a31 v:AV} {r:List AV}:zG (n+32) (a0::a1::a2::a3::a4::a5::a6::a7::a8::a9::a10::a11::a12::a13::a14::a15::a16::a17::a18::a19::a20::a21::a22::a23::a24::a25::a26::a27::a28::a29::a30::a31::r) v=a0::a1::a2::a3::a4::a5::a6::a7::a8::a9::a10::a11::a12::a13::a14::a15::a16::a17::a18::a19::a20::a21::a22::a23::a24::a25::a26::a27::a28::a29::a30::a31::zG n r v:=rfl
theorem qCS {t:List AV} {n:Nat}:ev t (.t n)=qS n t:=rfl
theorem qCR {t:List AV} {v:AV}:ev t (.c v)=v:=rfl
theorem qiD {b:Bool}:(AV.bool b).strip=(AV.bool b):=rfl
theorem qkV {b:Bool}:(AV.bool b).flag=true:=rfl
theorem qin {b:Bool}:(AV.bool b).solid=true:=rfl
theorem qhw {b:Bool}:(AV.bool b).cells= [(AV.bool b)]:=rfl
theorem qnd {k:IntKind} {n:Int}:(AV.int k n).strip=(AV.int k n):=rfl
theorem qoZ {k:IntKind} {n:Int}:(AV.int k n).flag=true:=rfl
theorem qmT {k:IntKind} {n:Int}:(AV.int k n).solid=true:=rfl
theorem qki {k:IntKind} {n:Int}:(AV.int k n).cells= [(AV.int k n)]:=rfl
theorem qnh {s:List UInt8}:(AV.str s).strip=(AV.str s):=rfl
theorem qo3 {s:List UInt8}:(AV.str s).flag=true:=rfl
theorem qmX {s:List UInt8}:(AV.str s).solid=true:=rfl
theorem qkm {s:List UInt8}:(AV.str s).cells= [(AV.str s)]:=rfl
theorem qqE {n:Nat} {f:Nat→List AV}:(AV.sl n f).strip=(AV.sl n f):=rfl
theorem qti {n:Nat} {f:Nat→List AV}:(AV.sl n f).flag=true:=rfl
theorem qqr {n:Nat} {f:Nat→List AV}:(AV.sl n f).solid=true:=rfl
theorem qoB {n:Nat} {f:Nat→List AV}:(AV.sl n f).cells= [(AV.sl n f)]:=rfl
theorem qnf {k v s p l:Nat}:(AV.osl k v s p l).strip=(AV.osl k v s p l):=rfl
theorem qo1 {k v s p l:Nat}:(AV.osl k v s p l).flag=true:=rfl
theorem qmV {k v s p l:Nat}:(AV.osl k v s p l).solid=true:=rfl
theorem qkk {k v s p l:Nat}:(AV.osl k v s p l).cells= [(AV.osl k v s p l)]:=rfl
theorem qnb {c:List AV}:(AV.agg c).strip=(AV.agg c):=rfl
theorem qoX {c:List AV}:(AV.agg c).flag=true:=rfl
theorem qmR {c:List AV}:(AV.agg c).solid=true:=rfl
theorem qni {c:List AV}:(AV.tup c).strip=(AV.tup c):=rfl
theorem qo4 {c:List AV}:(AV.tup c).flag=true:=rfl
theorem qkn {c:List AV}:(AV.tup c).cells= [(AV.tup c)]:=rfl
theorem qqB {c:List AV}:(AV.ip c).strip=(AV.ip c):=rfl
theorem qtf {c:List AV}:(AV.ip c).flag=true:=rfl
theorem qqo {c:List AV}:(AV.ip c).solid=true:=rfl
theorem qoy {c:List AV}:(AV.ip c).cells= [(AV.ip c)]:=rfl
theorem qqD {k v p:Nat}:(AV.op k v p).strip=(AV.op k v p):=rfl
theorem qth {k v p:Nat}:(AV.op k v p).flag=true:=rfl
theorem qqq {k v p:Nat}:(AV.op k v p).solid=true:=rfl
theorem qoA {k v p:Nat}:(AV.op k v p).cells= [(AV.op k v p)]:=rfl
theorem qiG  :AV.nilp.strip=AV.nilp:=rfl
theorem qkY  :AV.nilp.flag=true:=rfl
theorem qiq  :AV.nilp.solid=true:=rfl
theorem qhz  :AV.nilp.cells= [AV.nilp]:=rfl
theorem qqC  :AV.nl.strip=AV.nl:=rfl
theorem qtg  :AV.nl.flag=true:=rfl
theorem qqp  :AV.nl.solid=true:=rfl
theorem qoz  :AV.nl.cells= [AV.nl]:=rfl
theorem qqz {f:Fn} {a c:List AV}:(AV.fn f a c).strip=(AV.fn f a c):=rfl
theorem qtd {f:Fn} {a c:List AV}:(AV.fn f a c).flag=true:=rfl
theorem qqn {f:Fn} {a c:List AV}:(AV.fn f a c).solid=true:=rfl
theorem qox {f:Fn} {a c:List AV}:(AV.fn f a c).cells= [(AV.fn f a c)]:=rfl
theorem qnj {k:Nat}:(AV.yld k).strip=(AV.yld k):=rfl
theorem qo5 {k:Nat}:(AV.yld k).flag=true:=rfl
theorem qmY {k:Nat}:(AV.yld k).solid=true:=rfl
theorem qko {k:Nat}:(AV.yld k).cells= [(AV.yld k)]:=rfl
theorem qgd  :AV.nilfn.strip=AV.nilfn:=rfl
theorem qhO  :AV.nilfn.flag=true:=rfl
theorem qf2  :AV.nilfn.solid=true:=rfl
theorem qfz  :AV.nilfn.cells= [AV.nilfn]:=rfl
theorem qnc  :AV.ifc.strip=AV.ifc:=rfl
theorem qoY  :AV.ifc.flag=true:=rfl
theorem qmS  :AV.ifc.solid=true:=rfl
theorem qkh  :AV.ifc.cells= [AV.ifc]:=rfl
theorem qge  :AV.nilif.strip=AV.nilif:=rfl
theorem qhP  :AV.nilif.flag=true:=rfl
theorem qf3  :AV.nilif.solid=true:=rfl
theorem qfA  :AV.nilif.cells= [AV.nilif]:=rfl
theorem qgh:AV.undef.strip=AV.undef:=rfl
theorem qhS:AV.undef.flag=true:=rfl
theorem qkg {c:List AV}:(AV.agg c).cells=c:=rfl
theorem qqA {g:Bool} {v:AV}:(AV.gd g v).strip=v:=rfl
theorem qte {g:Bool} {v:AV}:(AV.gd g v).flag=g:=rfl
theorem qDw {P:Program} {b:Nat} {r:List RO} {K:Nx} {t:List AV} {h:List AObj} {d:Nat}  {x:X}:opsA P b (⟨some d,none,.mv,[x]⟩::r) K t h=((ev t x).flag=true∧opsA P b r K (zG d t ((ev t x).strip)) h):=by simp only [opsA,stepO,stepA,R.kd,evs,flags,strips,qP,okP,okL,valP,valL,and_true,true_and,and_assoc]
theorem qBL {P:Program} {b:Nat} {r:List RO} {K:Nx} {t:List AV} {h:List AObj} {d:Nat}  {x:X} {j:Nat} {u:Bool}:opsA P b (⟨some d,some (j,u),.mv,[x]⟩::r) K t h=(qI (qS j t)=true∧(qv (qS j t) u=true→(ev t x).flag=true)∧opsA P b r K (zG d t (.gd (qv (qS j t) u) ((ev t x).strip))) h):=by simp only [opsA,stepO,zZ,R.kd,evs,flags,strips,qP,okP,okL,valP,valL,and_true,true_and,and_assoc]
theorem qBp {P:Program} {b:Nat} {r:List RO} {K:Nx} {t:List AV} {h:List AObj} {d:Nat} {q:BinOp} {x y:X}:opsA P b (⟨some d,none,.bin q,[x,y]⟩::r) K t h=((ev t x).flag=true∧(ev t y).flag=true∧qah q (ev t x).strip (ev t y).strip∧opsA P b r K (zG d t (qaB q (ev t x).strip (ev t y).strip)) h):=by simp only [opsA,stepO,stepA,R.kd,evs,flags,strips,qP,okP,okL,valP,valL,and_true,true_and,and_assoc]
theorem qzT {P:Program} {b:Nat} {r:List RO} {K:Nx} {t:List AV} {h:List AObj} {d:Nat} {q:BinOp} {x y:X} {j:Nat} {u:Bool}:opsA P b (⟨some d,some (j,u),.bin q,[x,y]⟩::r) K t h=(qI (qS j t)=true∧(qv (qS j t) u=true→(ev t x).flag=true∧(ev t y).flag=true∧qah q (ev t x).strip (ev t y).strip)∧opsA P b r K (zG d t (.gd (qv (qS j t) u) (qaB q (ev t x).strip (ev t y).strip))) h):=by simp only [opsA,stepO,zZ,R.kd,evs,flags,strips,qP,okP,okL,valP,valL,and_true,true_and,and_assoc]
theorem qyY {P:Program} {b:Nat} {r:List RO} {K:Nx} {t:List AV} {h:List AObj} {d:Nat} {n:Bool} {xs:List X}:opsA P b (⟨some d,none,.bool n,xs⟩::r) K t h=(flags (evs t xs)∧okP (.bool n) (strips (evs t xs))∧opsA P b r K (zG d t (valP (.bool n) (strips (evs t xs)))) h):=by simp only [opsA,stepO,stepA,R.kd,qP]
theorem quN {P:Program} {b:Nat} {r:List RO} {K:Nx} {t:List AV} {h:List AObj} {d:Nat} {n:Bool} {xs:List X} {j:Nat} {u:Bool}:opsA P b (⟨some d,some (j,u),.bool n,xs⟩::r) K t h=(qI (qS j t)=true∧(qv (qS j t) u=true→flags (evs t xs)∧okP (.bool n) (strips (evs t xs)))∧opsA P b r K (zG d t (.gd (qv (qS j t) u) (valP (.bool n) (strips (evs t xs))))) h):=by simp only [opsA,stepO,zZ,R.kd,qP]
theorem qDx {P:Program} {b:Nat} {r:List RO} {K:Nx} {t:List AV} {h:List AObj} {d:Nat} {q:UnOp} {xs:List X}:opsA P b (⟨some d,none,.un q,xs⟩::r) K t h=(flags (evs t xs)∧okP (.un q) (strips (evs t xs))∧opsA P b r K (zG d t (valP (.un q) (strips (evs t xs)))) h):=by simp only [opsA,stepO,stepA,R.kd,qP]
theorem qBM {P:Program} {b:Nat} {r:List RO} {K:Nx} {t:List AV} {h:List AObj} {d:Nat} {q:UnOp} {xs:List X} {j:Nat} {u:Bool}:opsA P b (⟨some d,some (j,u),.un q,xs⟩::r) K t h=(qI (qS j t)=true∧(qv (qS j t) u=true→flags (evs t xs)∧okP (.un q) (strips (evs t xs)))∧opsA P b r K (zG d t (.gd (qv (qS j t) u) (valP (.un q) (strips (evs t xs))))) h):=by simp only [opsA,stepO,zZ,R.kd,qP]
theorem qy1 {P:Program} {b:Nat} {r:List RO} {K:Nx} {t:List AV} {h:List AObj} {d:Nat} {k:IntKind} {xs:List X}:opsA P b (⟨some d,none,.conv k,xs⟩::r) K t h=(flags (evs t xs)∧okP (.conv k) (strips (evs t xs))∧opsA P b r K (zG d t (valP (.conv k) (strips (evs t xs)))) h):=by simp only [opsA,stepO,stepA,R.kd,qP]
theorem quP {P:Program} {b:Nat} {r:List RO} {K:Nx} {t:List AV} {h:List AObj} {d:Nat} {k:IntKind} {xs:List X} {j:Nat} {u:Bool}:opsA P b (⟨some d,some (j,u),.conv k,xs⟩::r) K t h=(qI (qS j t)=true∧(qv (qS j t) u=true→flags (evs t xs)∧okP (.conv k) (strips (evs t xs)))∧opsA P b r K (zG d t (.gd (qv (qS j t) u) (valP (.conv k) (strips (evs t xs))))) h):=by simp only [opsA,stepO,zZ,R.kd,qP]
theorem quG {P:Program} {b:Nat} {r:List RO} {K:Nx} {t:List AV} {h:List AObj} {d:Nat} {k:NK} {n:Bool} {xs:List X}:opsA P b (⟨some d,none,.isnil k n,xs⟩::r) K t h=(flags (evs t xs)∧okP (.isnil k n) (strips (evs t xs))∧opsA P b r K (zG d t (valP (.isnil k n) (strips (evs t xs)))) h):=by simp only [opsA,stepO,stepA,R.kd,qP]
theorem qq1 {P:Program} {b:Nat} {r:List RO} {K:Nx} {t:List AV} {h:List AObj} {d:Nat} {k:NK} {n:Bool} {xs:List X} {j:Nat} {u:Bool}:opsA P b (⟨some d,some (j,u),.isnil k n,xs⟩::r) K t h=(qI (qS j t)=true∧(qv (qS j t) u=true→flags (evs t xs)∧okP (.isnil k n) (strips (evs t xs)))∧opsA P b r K (zG d t (.gd (qv (qS j t) u) (valP (.isnil k n) (strips (evs t xs))))) h):=by simp only [opsA,stepO,zZ,R.kd,qP]
theorem qBm {P:Program} {b:Nat} {r:List RO} {K:Nx} {t:List AV} {h:List AObj} {d:Nat} {ks:List AK} {n:Bool} {xs:List X}:opsA P b (⟨some d,none,.aeq ks n,xs⟩::r) K t h=(flags (evs t xs)∧okP (.aeq ks n) (strips (evs t xs))∧opsA P b r K (zG d t (valP (.aeq ks n) (strips (evs t xs)))) h):=by simp only [opsA,stepO,stepA,R.kd,qP]
theorem qzR {P:Program} {b:Nat} {r:List RO} {K:Nx} {t:List AV} {h:List AObj} {d:Nat} {ks:List AK} {n:Bool} {xs:List X} {j:Nat} {u:Bool}:opsA P b (⟨some d,some (j,u),.aeq ks n,xs⟩::r) K t h=(qI (qS j t)=true∧(qv (qS j t) u=true→flags (evs t xs)∧okP (.aeq ks n) (strips (evs t xs)))∧opsA P b r K (zG d t (.gd (qv (qS j t) u) (valP (.aeq ks n) (strips (evs t xs))))) h):=by simp only [opsA,stepO,zZ,R.kd,qP]
theorem qBt {P:Program} {b:Nat} {r:List RO} {K:Nx} {t:List AV} {h:List AObj} {d:Nat} {p:Nat} {n:Option Nat} {xs:List X}:opsA P b (⟨some d,none,.fld p n,xs⟩::r) K t h=(flags (evs t xs)∧okP (.fld p n) (strips (evs t xs))∧opsA P b r K (zG d t (valP (.fld p n) (strips (evs t xs)))) h):=by simp only [opsA,stepO,stepA,R.kd,qP]
theorem qzV {P:Program} {b:Nat} {r:List RO} {K:Nx} {t:List AV} {h:List AObj} {d:Nat} {p:Nat} {n:Option Nat} {xs:List X} {j:Nat} {u:Bool}:opsA P b (⟨some d,some (j,u),.fld p n,xs⟩::r) K t h=(qI (qS j t)=true∧(qv (qS j t) u=true→flags (evs t xs)∧okP (.fld p n) (strips (evs t xs)))∧opsA P b r K (zG d t (.gd (qv (qS j t) u) (valP (.fld p n) (strips (evs t xs))))) h):=by simp only [opsA,stepO,zZ,R.kd,qP]
theorem qBs {P:Program} {b:Nat} {r:List RO} {K:Nx} {t:List AV} {h:List AObj} {d:Nat} {i:Nat} {xs:List X}:opsA P b (⟨some d,none,.ext i,xs⟩::r) K t h=(flags (evs t xs)∧okP (.ext i) (strips (evs t xs))∧opsA P b r K (zG d t (valP (.ext i) (strips (evs t xs)))) h):=by simp only [opsA,stepO,stepA,R.kd,qP]
theorem qzU {P:Program} {b:Nat} {r:List RO} {K:Nx} {t:List AV} {h:List AObj} {d:Nat} {i:Nat} {xs:List X} {j:Nat} {u:Bool}:opsA P b (⟨some d,some (j,u),.ext i,xs⟩::r) K t h=(qI (qS j t)=true∧(qv (qS j t) u=true→flags (evs t xs)∧okP (.ext i) (strips (evs t xs)))∧opsA P b r K (zG d t (.gd (qv (qS j t) u) (valP (.ext i) (strips (evs t xs))))) h):=by simp only [opsA,stepO,zZ,R.kd,qP]
theorem quE {P:Program} {b:Nat} {r:List RO} {K:Nx} {t:List AV} {h:List AObj} {d:Nat} {z:List AV} {ps:List (Nat×Nat)} {xs:List X}:opsA P b (⟨some d,none,.build z ps,xs⟩::r) K t h=(flags (evs t xs)∧okP (.build z ps) (strips (evs t xs))∧opsA P b r K (zG d t (valP (.build z ps) (strips (evs t xs)))) h):=by simp only [opsA,stepO,stepA,R.kd,qP]
theorem qqZ {P:Program} {b:Nat} {r:List RO} {K:Nx} {t:List AV} {h:List AObj} {d:Nat} {z:List AV} {ps:List (Nat×Nat)} {xs:List X} {j:Nat} {u:Bool}:opsA P b (⟨some d,some (j,u),.build z ps,xs⟩::r) K t h=(qI (qS j t)=true∧(qv (qS j t) u=true→flags (evs t xs)∧okP (.build z ps) (strips (evs t xs)))∧opsA P b r K (zG d t (.gd (qv (qS j t) u) (valP (.build z ps) (strips (evs t xs))))) h):=by simp only [opsA,stepO,zZ,R.kd,qP]
theorem qy7 {P:Program} {b:Nat} {r:List RO} {K:Nx} {t:List AV} {h:List AObj} {d:Nat} {f:Fn} {n:Nat} {xs:List X}:opsA P b (⟨some d,none,.mkfn f n,xs⟩::r) K t h=(flags (evs t xs)∧okP (.mkfn f n) (strips (evs t xs))∧opsA P b r K (zG d t (valP (.mkfn f n) (strips (evs t xs)))) h):=by simp only [opsA,stepO,stepA,R.kd,qP]
theorem quT {P:Program} {b:Nat} {r:List RO} {K:Nx} {t:List AV} {h:List AObj} {d:Nat} {f:Fn} {n:Nat} {xs:List X} {j:Nat} {u:Bool}:opsA P b (⟨some d,some (j,u),.mkfn f n,xs⟩::r) K t h=(qI (qS j t)=true∧(qv (qS j t) u=true→flags (evs t xs)∧okP (.mkfn f n) (strips (evs t xs)))∧opsA P b r K (zG d t (.gd (qv (qS j t) u) (valP (.mkfn f n) (strips (evs t xs))))) h):=by simp only [opsA,stepO,zZ,R.kd,qP]
theorem qzb {P:Program} {b:Nat} {r:List RO} {K:Nx} {t:List AV} {h:List AObj} {d:Nat}  {xs:List X}:opsA P b (⟨some d,none,.slen,xs⟩::r) K t h=(flags (evs t xs)∧okP (.slen) (strips (evs t xs))∧opsA P b r K (zG d t (valP (.slen) (strips (evs t xs)))) h):=by simp only [opsA,stepO,stepA,R.kd,qP]
theorem quW {P:Program} {b:Nat} {r:List RO} {K:Nx} {t:List AV} {h:List AObj} {d:Nat}  {xs:List X} {j:Nat} {u:Bool}:opsA P b (⟨some d,some (j,u),.slen,xs⟩::r) K t h=(qI (qS j t)=true∧(qv (qS j t) u=true→flags (evs t xs)∧okP (.slen) (strips (evs t xs)))∧opsA P b r K (zG d t (.gd (qv (qS j t) u) (valP (.slen) (strips (evs t xs))))) h):=by simp only [opsA,stepO,zZ,R.kd,qP]
theorem qza {P:Program} {b:Nat} {r:List RO} {K:Nx} {t:List AV} {h:List AObj} {d:Nat}  {xs:List X}:opsA P b (⟨some d,none,.sidx,xs⟩::r) K t h=(flags (evs t xs)∧okP (.sidx) (strips (evs t xs))∧opsA P b r K (zG d t (valP (.sidx) (strips (evs t xs)))) h):=by simp only [opsA,stepO,stepA,R.kd,qP]
theorem qyV {P:Program} {b:Nat} {r:List RO} {K:Nx} {t:List AV} {h:List AObj} {d n1 n2:Nat} {n3:Option Nat}  {xs:List X}:opsA P b (⟨some d,none,(.aidx n1 n2 n3),xs⟩::r) K t h=(flags (evs t xs)∧okP (.aidx n1 n2 n3) (strips (evs t xs))∧opsA P b r K (zG d t (valP (.aidx n1 n2 n3) (strips (evs t xs)))) h):=by simp only [opsA,stepO,stepA,R.kd,qP]
theorem quV {P:Program} {b:Nat} {r:List RO} {K:Nx} {t:List AV} {h:List AObj} {d:Nat}  {xs:List X} {j:Nat} {u:Bool}:opsA P b (⟨some d,some (j,u),.sidx,xs⟩::r) K t h=(qI (qS j t)=true∧(qv (qS j t) u=true→flags (evs t xs)∧okP (.sidx) (strips (evs t xs)))∧opsA P b r K (zG d t (.gd (qv (qS j t) u) (valP (.sidx) (strips (evs t xs))))) h):=by simp only [opsA,stepO,zZ,R.kd,qP]
theorem quM {P:Program} {b:Nat} {r:List RO} {K:Nx} {t:List AV} {h:List AObj} {d n1 n2:Nat} {n3:Option Nat}  {xs:List X} {j:Nat} {u:Bool}:opsA P b (⟨some d,some (j,u),(.aidx n1 n2 n3),xs⟩::r) K t h=(qI (qS j t)=true∧(qv (qS j t) u=true→flags (evs t xs)∧okP (.aidx n1 n2 n3) (strips (evs t xs)))∧opsA P b r K (zG d t (.gd (qv (qS j t) u) (valP (.aidx n1 n2 n3) (strips (evs t xs))))) h):=by simp only [opsA,stepO,zZ,R.kd,qP]
theorem qzc {P:Program} {b:Nat} {r:List RO} {K:Nx} {t:List AV} {h:List AObj} {d:Nat} {lo hi:Bool} {xs:List X}:opsA P b (⟨some d,none,.sslc lo hi,xs⟩::r) K t h=(flags (evs t xs)∧okP (.sslc lo hi) (strips (evs t xs))∧opsA P b r K (zG d t (valP (.sslc lo hi) (strips (evs t xs)))) h):=by simp only [opsA,stepO,stepA,R.kd,qP]
theorem quX {P:Program} {b:Nat} {r:List RO} {K:Nx} {t:List AV} {h:List AObj} {d:Nat} {lo hi:Bool} {xs:List X} {j:Nat} {u:Bool}:opsA P b (⟨some d,some (j,u),.sslc lo hi,xs⟩::r) K t h=(qI (qS j t)=true∧(qv (qS j t) u=true→flags (evs t xs)∧okP (.sslc lo hi) (strips (evs t xs)))∧opsA P b r K (zG d t (.gd (qv (qS j t) u) (valP (.sslc lo hi) (strips (evs t xs))))) h):=by simp only [opsA,stepO,zZ,R.kd,qP]
theorem qDv {P:Program} {b:Nat} {r:List RO} {K:Nx} {t:List AV} {h:List AObj} {d:Nat} {m:Bool} {xs:List X}:opsA P b (⟨some d,none,.mm m,xs⟩::r) K t h=(flags (evs t xs)∧okP (.mm m) (strips (evs t xs))∧opsA P b r K (zG d t (valP (.mm m) (strips (evs t xs)))) h):=by simp only [opsA,stepO,stepA,R.kd,qP]
theorem qBK {P:Program} {b:Nat} {r:List RO} {K:Nx} {t:List AV} {h:List AObj} {d:Nat} {m:Bool} {xs:List X} {j:Nat} {u:Bool}:opsA P b (⟨some d,some (j,u),.mm m,xs⟩::r) K t h=(qI (qS j t)=true∧(qv (qS j t) u=true→flags (evs t xs)∧okP (.mm m) (strips (evs t xs)))∧opsA P b r K (zG d t (.gd (qv (qS j t) u) (valP (.mm m) (strips (evs t xs))))) h):=by simp only [opsA,stepO,zZ,R.kd,qP]
theorem qBu {P:Program} {b:Nat} {r:List RO} {K:Nx} {t:List AV} {h:List AObj} {d:Nat}  {xs:List X}:opsA P b (⟨some d,none,.len,xs⟩::r) K t h=(flags (evs t xs)∧okL h (.len) (strips (evs t xs))∧opsA P b r K (zG d t (valL h (.len) (strips (evs t xs)))) h):=by simp only [opsA,stepO,stepA,R.kd,qP]
theorem qzW {P:Program} {b:Nat} {r:List RO} {K:Nx} {t:List AV} {h:List AObj} {d:Nat}  {xs:List X} {j:Nat} {u:Bool}:opsA P b (⟨some d,some (j,u),.len,xs⟩::r) K t h=(qI (qS j t)=true∧(qv (qS j t) u=true→flags (evs t xs)∧okL h (.len) (strips (evs t xs)))∧opsA P b r K (zG d t (.gd (qv (qS j t) u) (valL h (.len) (strips (evs t xs))))) h):=by simp only [opsA,stepO,zZ,R.kd,qP]
theorem qy4 {P:Program} {b:Nat} {r:List RO} {K:Nx} {t:List AV} {h:List AObj} {d:Nat} {z:Nat} {xs:List X}:opsA P b (⟨some d,none,.idxA z,xs⟩::r) K t h=(flags (evs t xs)∧okL h (.idxA z) (strips (evs t xs))∧opsA P b r K (zG d t (valL h (.idxA z) (strips (evs t xs)))) h):=by simp only [opsA,stepO,stepA,R.kd,qP]
theorem quR {P:Program} {b:Nat} {r:List RO} {K:Nx} {t:List AV} {h:List AObj} {d:Nat} {z:Nat} {xs:List X} {j:Nat} {u:Bool}:opsA P b (⟨some d,some (j,u),.idxA z,xs⟩::r) K t h=(qI (qS j t)=true∧(qv (qS j t) u=true→flags (evs t xs)∧okL h (.idxA z) (strips (evs t xs)))∧opsA P b r K (zG d t (.gd (qv (qS j t) u) (valL h (.idxA z) (strips (evs t xs))))) h):=by simp only [opsA,stepO,zZ,R.kd,qP]
theorem qqX {P:Program} {b:Nat} {r:List RO} {K:Nx} {t:List AV} {h:List AObj} {d:Nat} {m z:Nat} {xs:List X}:opsA P b (⟨some d,none,.idxArr m z,xs⟩::r) K t h=(flags (evs t xs)∧okL h (.idxArr m z) (strips (evs t xs))∧opsA P b r K (zG d t (valL h (.idxArr m z) (strips (evs t xs)))) h):=by simp only [opsA,stepO,stepA,R.kd,qP]
theorem qnT {P:Program} {b:Nat} {r:List RO} {K:Nx} {t:List AV} {h:List AObj} {d:Nat} {m z:Nat} {xs:List X} {j:Nat} {u:Bool}:opsA P b (⟨some d,some (j,u),.idxArr m z,xs⟩::r) K t h=(qI (qS j t)=true∧(qv (qS j t) u=true→flags (evs t xs)∧okL h (.idxArr m z) (strips (evs t xs)))∧opsA P b r K (zG d t (.gd (qv (qS j t) u) (valL h (.idxArr m z) (strips (evs t xs))))) h):=by simp only [opsA,stepO,zZ,R.kd,qP]
theorem qy2 {P:Program} {b:Nat} {r:List RO} {K:Nx} {t:List AV} {h:List AObj} {d:Nat} {p:Nat} {xs:List X}:opsA P b (⟨some d,none,.fldA p,xs⟩::r) K t h=(flags (evs t xs)∧okL h (.fldA p) (strips (evs t xs))∧opsA P b r K (zG d t (valL h (.fldA p) (strips (evs t xs)))) h):=by simp only [opsA,stepO,stepA,R.kd,qP]
theorem quQ {P:Program} {b:Nat} {r:List RO} {K:Nx} {t:List AV} {h:List AObj} {d:Nat} {p:Nat} {xs:List X} {j:Nat} {u:Bool}:opsA P b (⟨some d,some (j,u),.fldA p,xs⟩::r) K t h=(qI (qS j t)=true∧(qv (qS j t) u=true→flags (evs t xs)∧okL h (.fldA p) (strips (evs t xs)))∧opsA P b r K (zG d t (.gd (qv (qS j t) u) (valL h (.fldA p) (strips (evs t xs))))) h):=by simp only [opsA,stepO,zZ,R.kd,qP]
theorem qy6 {P:Program} {b:Nat} {r:List RO} {K:Nx} {t:List AV} {h:List AObj} {d:Nat} {n:Option Nat} {xs:List X}:opsA P b (⟨some d,none,.load n,xs⟩::r) K t h=(flags (evs t xs)∧okL h (.load n) (strips (evs t xs))∧opsA P b r K (zG d t (valL h (.load n) (strips (evs t xs)))) h):=by simp only [opsA,stepO,stepA,R.kd,qP]
theorem quS {P:Program} {b:Nat} {r:List RO} {K:Nx} {t:List AV} {h:List AObj} {d:Nat} {n:Option Nat} {xs:List X} {j:Nat} {u:Bool}:opsA P b (⟨some d,some (j,u),.load n,xs⟩::r) K t h=(qI (qS j t)=true∧(qv (qS j t) u=true→flags (evs t xs)∧okL h (.load n) (strips (evs t xs)))∧opsA P b r K (zG d t (.gd (qv (qS j t) u) (valL h (.load n) (strips (evs t xs))))) h):=by simp only [opsA,stepO,zZ,R.kd,qP]
theorem qqY {P:Program} {b:Nat} {r:List RO} {K:Nx} {t:List AV} {h:List AObj} {d:Nat}  {xs:List X}:opsA P b (⟨some d,none,.nilchk,xs⟩::r) K t h=(flags (evs t xs)∧okL h (.nilchk) (strips (evs t xs))∧opsA P b r K (zG d t (valL h (.nilchk) (strips (evs t xs)))) h):=by simp only [opsA,stepO,stepA,R.kd,qP]
theorem qnU {P:Program} {b:Nat} {r:List RO} {K:Nx} {t:List AV} {h:List AObj} {d:Nat}  {xs:List X} {j:Nat} {u:Bool}:opsA P b (⟨some d,some (j,u),.nilchk,xs⟩::r) K t h=(qI (qS j t)=true∧(qv (qS j t) u=true→flags (evs t xs)∧okL h (.nilchk) (strips (evs t xs)))∧opsA P b r K (zG d t (.gd (qv (qS j t) u) (valL h (.nilchk) (strips (evs t xs))))) h):=by simp only [opsA,stepO,zZ,R.kd,qP]
theorem qBx {P:Program} {b:Nat} {r:List RO} {K:Nx} {t:List AV} {h:List AObj} {d:Nat} {z:Nat} {lo hi:Bool} {xs:List X}:opsA P b (⟨some d,none,.slc z lo hi,xs⟩::r) K t h=(flags (evs t xs)∧okL h (.slc z lo hi) (strips (evs t xs))∧opsA P b r K (zG d t (valL h (.slc z lo hi) (strips (evs t xs)))) h):=by simp only [opsA,stepO,stepA,R.kd,qP]
theorem qzX {P:Program} {b:Nat} {r:List RO} {K:Nx} {t:List AV} {h:List AObj} {d:Nat} {z:Nat} {lo hi:Bool} {xs:List X} {j:Nat} {u:Bool}:opsA P b (⟨some d,some (j,u),.slc z lo hi,xs⟩::r) K t h=(qI (qS j t)=true∧(qv (qS j t) u=true→flags (evs t xs)∧okL h (.slc z lo hi) (strips (evs t xs)))∧opsA P b r K (zG d t (.gd (qv (qS j t) u) (valL h (.slc z lo hi) (strips (evs t xs))))) h):=by simp only [opsA,stepO,zZ,R.kd,qP]
theorem qy9 {P:Program} {b:Nat} {r:List RO} {K:Nx} {t:List AV} {h:List AObj} {d:Nat} {c x y:X}:opsA P b (⟨some d,none,.pick,[c,x,y]⟩::r) K t h=(qap (ev t c) (ev t x) (ev t y)∧opsA P b r K (zG d t (jE (ev t c) (ev t x) (ev t y))) h):=by simp only [opsA,stepO,stepA,R.kd,qP,evs]
theorem quU {P:Program} {b:Nat} {r:List RO} {K:Nx} {t:List AV} {h:List AObj} {d:Nat} {c x y:X} {j:Nat} {u:Bool}:opsA P b (⟨some d,some (j,u),.pick,[c,x,y]⟩::r) K t h=(qI (qS j t)=true∧(qv (qS j t) u=true→qap (ev t c) (ev t x) (ev t y))∧opsA P b r K (zG d t (.gd (qv (qS j t) u) (jE (ev t c) (ev t x) (ev t y)))) h):=by simp only [opsA,stepO,zZ,R.kd,qP,evs]
theorem qy8 {P:Program} {b:Nat} {r:List RO} {K:Nx} {t:List AV} {h:List AObj} {d:Option Nat} {j z:Nat} {ty:TypeId} {xs:List X}:opsA P b (⟨d,none,.nilo j z ty,xs⟩::r) K t h=(flags (evs t xs)∧effE b h (.nilo j z ty) (strips (evs t xs)) t d (opsA P b r K)):=by simp only [opsA,stepO,stepA,R.kd]
theorem quD {P:Program} {b:Nat} {r:List RO} {K:Nx} {t:List AV} {h:List AObj} {d:Option Nat} {j:Nat} {ty:TypeId} {z:List AV} {xs:List X}:opsA P b (⟨d,none,.alloc j ty z,xs⟩::r) K t h=(flags (evs t xs)∧effE b h (.alloc j ty z) (strips (evs t xs)) t d (opsA P b r K)):=by simp only [opsA,stepO,stepA,R.kd]
theorem qBq {P:Program} {b:Nat} {r:List RO} {K:Nx} {t:List AV} {h:List AObj} {d:Option Nat} {j:Nat} {ty:TypeId} {xs:List X}:opsA P b (⟨d,none,.box j ty,xs⟩::r) K t h=(flags (evs t xs)∧effE b h (.box j ty) (strips (evs t xs)) t d (opsA P b r K)):=by simp only [opsA,stepO,stepA,R.kd]
theorem quJ {P:Program} {b:Nat} {r:List RO} {K:Nx} {t:List AV} {h:List AObj} {d:Option Nat} {n:Nat} {xs:List X}:opsA P b (⟨d,none,.store n,xs⟩::r) K t h=(flags (evs t xs)∧effE b h (.store n) (strips (evs t xs)) t d (opsA P b r K)):=by simp only [opsA,stepO,stepA,R.kd]
theorem quI {P:Program} {b:Nat} {r:List RO} {K:Nx} {t:List AV} {h:List AObj} {d:Option Nat} {j z m:Nat} {ty:TypeId} {zs:List AV} {xs:List X}:opsA P b (⟨d,none,.mkslc j z ty zs m,xs⟩::r) K t h=(flags (evs t xs)∧effE b h (.mkslc j z ty zs m) (strips (evs t xs)) t d (opsA P b r K)):=by simp only [opsA,stepO,stepA,R.kd]
theorem qyZ {P:Program} {b:Nat} {r:List RO} {K:Nx} {t:List AV} {h:List AObj} {d:Option Nat} {j z n:Nat} {ty:TypeId} {zs:List AV} {ps:List (Nat×Nat)} {xs:List X}:opsA P b (⟨d,none,.bslc j z n ty zs ps,xs⟩::r) K t h=(flags (evs t xs)∧effE b h (.bslc j z n ty zs ps) (strips (evs t xs)) t d (opsA P b r K)):=by simp only [opsA,stepO,stepA,R.kd]
theorem qBn {P:Program} {b:Nat} {r:List RO} {K:Nx} {t:List AV} {h:List AObj} {d:Option Nat} {j z m:Nat} {ty:TypeId} {xs:List X}:opsA P b (⟨d,none,.app j z ty m,xs⟩::r) K t h=(flags (evs t xs)∧effE b h (.app j z ty m) (strips (evs t xs)) t d (opsA P b r K)):=by simp only [opsA,stepO,stepA,R.kd]
theorem qyW {P:Program} {b:Nat} {r:List RO} {K:Nx} {t:List AV} {h:List AObj} {d:Option Nat} {j:Nat} {ty:TypeId} {xs:List X}:opsA P b (⟨d,none,.apps j ty,xs⟩::r) K t h=(flags (evs t xs)∧effE b h (.apps j ty) (strips (evs t xs)) t d (opsA P b r K)):=by simp only [opsA,stepO,stepA,R.kd]
theorem qy0 {P:Program} {b:Nat} {r:List RO} {K:Nx} {t:List AV} {h:List AObj} {d:Option Nat} {f:Nat} {p:Bool} {xs:List X}:opsA P b (⟨d,none,.call f p,xs⟩::r) K t h=qj7 P f p (evs t xs) d (opsA P b r K) t h:=by simp only [opsA,stepO,stepA,R.kd]
theorem quO {P:Program} {b:Nat} {r:List RO} {K:Nx} {t:List AV} {h:List AObj} {d:Option Nat} {f:Nat} {p:Bool} {xs:List X} {j:Nat} {u:Bool}:opsA P b (⟨d,some (j,u),.call f p,xs⟩::r) K t h=(qI (qS j t)=true∧qj9 P f p (qv (qS j t) u) (evs t xs) d (opsA P b r K) t h):=by simp only [opsA,stepO,zZ,R.kd]
theorem quF {P:Program} {b:Nat} {r:List RO} {K:Nx} {t:List AV} {h:List AObj} {d:Option Nat} {xs:List X}:opsA P b (⟨d,none,.callv,xs⟩::r) K t h=(flags (evs t xs)∧qb1 P (strips (evs t xs)) d (opsA P b r K) t h):=by simp only [opsA,stepO,stepA,R.kd]
theorem qBv {P:Program} {b:Nat} {K:Nx} {t:List AV} {h:List AObj}:opsA P b [] K t h=K t h:=(rfl)
theorem qtb {t:List AV}:evs t []= []:=rfl
theorem qoS {t:List AV} {x:X} {r:List X}:evs t (x::r)=ev t x::evs t r:=rfl
theorem qiJ:strips []= []:=rfl
theorem qgi {x:AV} {r:List AV}:strips (x::r)=x.strip::strips r:=rfl
theorem qk1:flags []=True:=rfl
theorem qhT {x:AV} {r:List AV}:flags (x::r)=(x.flag=true∧flags r):=rfl
theorem qjy {k l:IntKind} {a c:Int}:qaB .add (.int k a) (.int l c)= .int k (k.wrap (a+c)):=rfl
theorem qjc {k l:IntKind} {a c:Int}:qah .add (.int k a) (.int l c)=(k=l):=rfl
theorem qjL {k l:IntKind} {a c:Int}:qaB .sub (.int k a) (.int l c)= .int k (k.wrap (a-c)):=rfl
theorem qjp {k l:IntKind} {a c:Int}:qah .sub (.int k a) (.int l c)=(k=l):=rfl
theorem qjF {k l:IntKind} {a c:Int}:qaB .mul (.int k a) (.int l c)= .int k (k.wrap (a*c)):=rfl
theorem qjj {k l:IntKind} {a c:Int}:qah .mul (.int k a) (.int l c)=(k=l):=rfl
theorem qjH {k l:IntKind} {a c:Int}:qaB .quo (.int k a) (.int l c)= .int k (k.wrap (a.tdiv c)):=rfl
theorem qjl {k l:IntKind} {a c:Int}:qah .quo (.int k a) (.int l c)=(k=l∧c≠0):=rfl
theorem qjI {k l:IntKind} {a c:Int}:qaB .rem (.int k a) (.int l c)= .int k (a.tmod c):=rfl
theorem qjm {k l:IntKind} {a c:Int}:qah .rem (.int k a) (.int l c)=(k=l∧c≠0):=rfl
theorem qjJ {k l:IntKind} {a c:Int}:qaB .shl (.int k a) (.int l c)= .int k (qBd k a c):=rfl
theorem qjn {k l:IntKind} {a c:Int}:qah .shl (.int k a) (.int l c)=(0≤c):=rfl
theorem qjK {k l:IntKind} {a c:Int}:qaB .shr (.int k a) (.int l c)= .int k (qz3 k a c):=rfl
theorem qjo {k l:IntKind} {a c:Int}:qah .shr (.int k a) (.int l c)=(0≤c):=rfl
theorem qjA {k l:IntKind} {a c:Int}:qaB .eql (.int k a) (.int l c)= .bool (decide (a=c)):=rfl
theorem qje {k l:IntKind} {a c:Int}:qah .eql (.int k a) (.int l c)=(k=l):=rfl
theorem qjG {k l:IntKind} {a c:Int}:qaB .neq (.int k a) (.int l c)= .bool (!decide (a=c)):=rfl
theorem qjk {k l:IntKind} {a c:Int}:qah .neq (.int k a) (.int l c)=(k=l):=rfl
theorem qjE {k l:IntKind} {a c:Int}:qaB .lss (.int k a) (.int l c)= .bool (decide (a<c)):=rfl
theorem qji {k l:IntKind} {a c:Int}:qah .lss (.int k a) (.int l c)=(k=l):=rfl
theorem qjD {k l:IntKind} {a c:Int}:qaB .leq (.int k a) (.int l c)= .bool (decide (a≤c)):=rfl
theorem qjh {k l:IntKind} {a c:Int}:qah .leq (.int k a) (.int l c)=(k=l):=rfl
theorem qjC {k l:IntKind} {a c:Int}:qaB .gtr (.int k a) (.int l c)= .bool (decide (c<a)):=rfl
theorem qjg {k l:IntKind} {a c:Int}:qah .gtr (.int k a) (.int l c)=(k=l):=rfl
theorem qjB {k l:IntKind} {a c:Int}:qaB .geq (.int k a) (.int l c)= .bool (decide (c≤a)):=rfl
theorem qjf {k l:IntKind} {a c:Int}:qah .geq (.int k a) (.int l c)=(k=l):=rfl
theorem qjz {k l:IntKind} {a c:Int}:qaB .and (.int k a) (.int l c)= .int k (qr6 k a c):=rfl
theorem qjd {k l:IntKind} {a c:Int}:qah .and (.int k a) (.int l c)=(k=l):=rfl
theorem qon {k l:IntKind} {a c:Int}:qaB .or (.int k a) (.int l c)= .int k (orK k a c):=rfl
theorem qom {k l:IntKind} {a c:Int}:qah .or (.int k a) (.int l c)=(k=l):=rfl
theorem qjM {k l:IntKind} {a c:Int}:qaB .xor (.int k a) (.int l c)= .int k (qDB k a c):=rfl
theorem qjq {k l:IntKind} {a c:Int}:qah .xor (.int k a) (.int l c)=(k=l):=rfl
theorem qed {k l:IntKind} {a c:Int}:qaB .andNot (.int k a) (.int l c)= .int k (qfb k a c):=rfl
theorem qec {k l:IntKind} {a c:Int}:qah .andNot (.int k a) (.int l c)=(k=l):=rfl
theorem qjN {s u:List UInt8}:qaB .add (.str s) (.str u)= .str (s++u):=rfl
theorem qjr {s u:List UInt8}:qah .add (.str s) (.str u)=(s.length+u.length≤9223372036854775807):=rfl
theorem qjO {s u:List UInt8}:qaB .eql (.str s) (.str u)= .bool (decide (s=u)):=rfl
theorem qjs {s u:List UInt8}:qah .eql (.str s) (.str u)=True:=rfl
theorem qjT {s u:List UInt8}:qaB .neq (.str s) (.str u)= .bool (!decide (s=u)):=rfl
theorem qjx {s u:List UInt8}:qah .neq (.str s) (.str u)=True:=rfl
theorem qjS {s u:List UInt8}:qaB .lss (.str s) (.str u)= .bool (Op.bytesLess s u):=rfl
theorem qjw {s u:List UInt8}:qah .lss (.str s) (.str u)=True:=rfl
theorem qjR {s u:List UInt8}:qaB .leq (.str s) (.str u)= .bool (Op.bytesLess s u||decide (s=u)):=rfl
theorem qjv {s u:List UInt8}:qah .leq (.str s) (.str u)=True:=rfl
theorem qjQ {s u:List UInt8}:qaB .gtr (.str s) (.str u)= .bool (!(Op.bytesLess s u||decide (s=u))):=rfl
theorem qju {s u:List UInt8}:qah .gtr (.str s) (.str u)=True:=rfl
theorem qjP {s u:List UInt8}:qaB .geq (.str s) (.str u)= .bool (!Op.bytesLess s u):=rfl
theorem qjt {s u:List UInt8}:qah .geq (.str s) (.str u)=True:=rfl
theorem qnB {n p q:Bool}:valP (.bool n) [.bool p,.bool q]= .bool (n !=(p==q)):=rfl
theorem qpK {n p q:Bool}:okP (.bool n) [.bool p,.bool q]=True:=rfl
theorem qqT {p:Bool}:valP (.un .not) [.bool p]= .bool (!p):=rfl
theorem qtW {p:Bool}:okP (.un .not) [.bool p]=True:=rfl
theorem qqS {k:IntKind} {n:Int}:valP (.un .neg) [.int k n]= .int k (k.wrap (0-n)):=rfl
theorem qtV {k:IntKind} {n:Int}:okP (.un .neg) [.int k n]=True:=rfl
theorem qnC {k l:IntKind} {n:Int}:valP (.conv k) [.int l n]= .int k (k.wrap n):=rfl
theorem qpL {k l:IntKind} {n:Int}:okP (.conv k) [.int l n]=True:=rfl
theorem qcY {n:Bool} {x:AV}:valP (.isnil .ptr n) [x]= .bool (n !=(zh .ptr x).getD false):=rfl
theorem qdL {n:Bool} {x:AV}:okP (.isnil .ptr n) [x]=((zh .ptr x).isSome=true):=rfl
theorem qcO {n:Bool} {x:AV}:valP (.isnil .func n) [x]= .bool (n !=(zh .func x).getD false):=rfl
theorem qcU {n:Bool} {x:AV}:okP (.isnil .func n) [x]=((zh .func x).isSome=true):=rfl
theorem qb5 {n:Bool} {x:AV}:valP (.isnil .iface n) [x]= .bool (n !=(zh .iface x).getD false):=rfl
theorem qcJ {n:Bool} {x:AV}:okP (.isnil .iface n) [x]=((zh .iface x).isSome=true):=rfl
theorem qbh {n:Bool} {m:Nat} {f:Nat→List AV}:valP (.isnil .slice n) [.sl m f]=if m=0 then .anyb else .bool (n !=false):=rfl
theorem qeK {n:Bool} {m:Nat} {f:Nat→List AV}:okP (.isnil .slice n) [.sl m f]=True:=rfl
theorem qdY {n:Bool}:valP (.isnil .slice n) [.nl]= .bool (n !=true):=rfl
theorem qeJ {n:Bool}:okP (.isnil .slice n) [.nl]=True:=by simp [okP,zh]
theorem qhB (A B:Nx) (t:List AV) (h:List AObj):qfE .anyb A B t h=(A t h∧B t h):=rfl
theorem qiC:AV.strip .anyb= .anyb:=rfl
theorem qkU:AV.flag .anyb=true:=rfl
theorem qim:AV.solid .anyb=true:=rfl
theorem qhv:AV.cells .anyb= [.anyb]:=rfl
theorem qlK:zh .ptr .nilp=some true:=rfl
theorem qh2:zh .func .nilfn=some true:=rfl
theorem qh3:zh .iface .nilif=some true:=rfl
theorem qtL:zh .slice .nl=some true:=rfl
theorem qtK {c:List AV}:zh .ptr (.ip c)=some false:=rfl
theorem qtJ {f:Fn} {a c:List AV}:zh .func (.fn f a c)=some false:=rfl
theorem qpy:zh .iface .ifc=some false:=rfl
theorem qqP {ks:List AK} {n:Bool} {x y:List AV}:valP (.aeq ks n) [.agg x,.agg y]= .bool (n !=(zf ks x y).getD false):=rfl
theorem qtQ {ks:List AK} {n:Bool} {x y:List AV}:okP (.aeq ks n) [.agg x,.agg y]=((zf ks x y).isSome=true):=rfl
theorem qqR {p:Nat} {n:Option Nat} {c:List AV}:valP (.fld p n) [.agg c]=cut c p n:=rfl
theorem qtS {p:Nat} {n:Option Nat} {c:List AV}:okP (.fld p n) [.agg c]=ji c p n:=rfl
theorem qsN {p:Nat} {c:List AV}:ji c p none=(p<c.length):=rfl
theorem qsO {p n:Nat} {c:List AV}:ji c p (some n)=(p+n≤c.length):=rfl
theorem qqQ {i:Nat} {c:List AV}:valP (.ext i) [.tup c]=(c[i]?).getD .undef:=rfl
theorem qtR {i:Nat} {c:List AV}:okP (.ext i) [.tup c]=(i<c.length):=rfl
theorem qiX {z:List AV} {ps:List (Nat×Nat)} {vs:List AV}:valP (.build z ps) vs= .agg (qak z ps vs):=by cases vs<;>rfl
theorem qlW {z:List AV} {ps:List (Nat×Nat)} {vs:List AV}:okP (.build z ps) vs=kZ z.length ps vs:=by cases vs<;>rfl
theorem qhL {n:Nat}:kZ n [] []=True:=rfl
theorem qfH {m p n:Nat} {ps:List (Nat×Nat)} {v:AV} {vs:List AV}:kZ m ((p,n)::ps) (v::vs)=(v.solid=true∧v.cells.length=n∧p+n≤m∧kZ m ps vs):=rfl
theorem qkP {z:List AV} {ps:List (Nat×Nat)}:qak z ps []=z:=by cases ps<;>rfl
theorem qhK {z:List AV} {p n:Nat} {ps:List (Nat×Nat)} {v:AV} {vs:List AV}:qak z ((p,n)::ps) (v::vs)=qak (z.take p++v.cells++z.drop (p+n)) ps vs:=rfl
theorem qnI {f:Fn} {n:Nat} {vs:List AV}:valP (.mkfn f n) vs= .fn f (vs.take n) (vs.drop n):=by cases vs<;>rfl
theorem qpO {f:Fn} {n:Nat} {vs:List AV}:okP (.mkfn f n) vs=(n≤vs.length):=by cases vs<;>rfl
theorem qnJ {s:List UInt8} {k:IntKind} {i:Int}:valP .sidx [.str s,.int k i]= .int .u8 ((s[i.toNat]?).getD 0).toNat:=rfl
theorem qnA {cs:List AV} {k:IntKind} {i:Int} {n1 n2:Nat} {n3:Option Nat}:valP (.aidx n1 n2 n3) [.agg cs,.int k i]=cut cs (i.toNat*n2) n3:=rfl
theorem qpJ {cs:List AV} {k:IntKind} {i:Int} {n1 n2:Nat} {n3:Option Nat}:okP (.aidx n1 n2 n3) [.agg cs,.int k i]=((0≤i∧i<n1)∧ji cs (i.toNat*n2) n3):=rfl
theorem qpP {s:List UInt8} {k:IntKind} {i:Int}:okP .sidx [.str s,.int k i]=(0≤i∧i<s.length):=rfl
theorem qiZ {s:List UInt8} {k m:IntKind} {a c:Int}:valP (.sslc true true) [.str s,.int k a,.int m c]= .str ((s.drop (a:Int).toNat).take ((c:Int).toNat-(a:Int).toNat)):=by simp [valP,loB,hiB]
theorem qlY {s:List UInt8} {k m:IntKind} {a c:Int}:okP (.sslc true true) [.str s,.int k a,.int m c]=(0≤(a:Int)∧(a:Int)≤c∧c≤(s.length:Int)):=by simp [okP,loB,hiB,qaw]
theorem qiW {g:List AObj} {z n:Nat} {f:Nat→List AV} {k m:IntKind} {a c:Int}:valL g (.slc z true true) [.sl n f,.int k a,.int m c]= .sl ((c:Int).toNat-(a:Int).toNat) (fun i=>f ((a:Int).toNat+i)):=by simp [valL,loB,hiB]
theorem qlV {g:List AObj} {z n:Nat} {f:Nat→List AV} {k m:IntKind} {a c:Int}:okL g (.slc z true true) [.sl n f,.int k a,.int m c]=((0≤(a:Int)∧(a:Int)≤c∧c≤(n:Int))∧(0<n→(f 0).length=z)):=by simp [okL,loB,hiB,qaw,and_assoc]
theorem qiU {g:List AObj} {z w v y p n:Nat} {k m:IntKind} {a c:Int}:valL g (.slc z true true) [.osl w v y p n,.int k a,.int m c]= .osl w v y (p+(a:Int).toNat*y) ((c:Int).toNat-(a:Int).toNat):=by simp [valL,loB,hiB]
theorem qlU {g:List AObj} {z w v y p n:Nat} {k m:IntKind} {a c:Int}:okL g (.slc z true true) [.osl w v y p n,.int k a,.int m c]=((0≤(a:Int)∧(a:Int)≤c∧c≤(n:Int))∧y=z∧zu g w v=true∧((a:Int)=0∨(a:Int)<n)):=by simp [okL,loB,hiB,qaw,and_assoc]
theorem qnM {s:List UInt8} {k:IntKind} {a:Int}:valP (.sslc true false) [.str s,.int k a]= .str ((s.drop (a:Int).toNat).take (((s.length:Int):Int).toNat-(a:Int).toNat)):=by simp [valP,loB,hiB]
theorem qpS {s:List UInt8} {k:IntKind} {a:Int}:okP (.sslc true false) [.str s,.int k a]=(0≤(a:Int)∧(a:Int)≤(s.length:Int)∧(s.length:Int)≤(s.length:Int)):=by simp [okP,loB,hiB,qaw]
theorem qnz {g:List AObj} {z n:Nat} {f:Nat→List AV} {k:IntKind} {a:Int}:valL g (.slc z true false) [.sl n f,.int k a]= .sl (((n:Int):Int).toNat-(a:Int).toNat) (fun i=>f ((a:Int).toNat+i)):=by simp [valL,loB,hiB]
theorem qpI {g:List AObj} {z n:Nat} {f:Nat→List AV} {k:IntKind} {a:Int}:okL g (.slc z true false) [.sl n f,.int k a]=((0≤(a:Int)∧(a:Int)≤(n:Int)∧(n:Int)≤(n:Int))∧(0<n→(f 0).length=z)):=by simp [okL,loB,hiB,qaw,and_assoc]
theorem qnx {g:List AObj} {z w v y p n:Nat} {k:IntKind} {a:Int}:valL g (.slc z true false) [.osl w v y p n,.int k a]= .osl w v y (p+(a:Int).toNat*y) (((n:Int):Int).toNat-(a:Int).toNat):=by simp [valL,loB,hiB]
theorem qpG {g:List AObj} {z w v y p n:Nat} {k:IntKind} {a:Int}:okL g (.slc z true false) [.osl w v y p n,.int k a]=((0≤(a:Int)∧(a:Int)≤(n:Int)∧(n:Int)≤(n:Int))∧y=z∧zu g w v=true∧((a:Int)=0∨(a:Int)<n)):=by simp [okL,loB,hiB,qaw,and_assoc]
theorem qnL {s:List UInt8} {k:IntKind} {c:Int}:valP (.sslc false true) [.str s,.int k c]= .str ((s.drop (0:Int).toNat).take ((c:Int).toNat-(0:Int).toNat)):=by simp [valP,loB,hiB]
theorem qpR {s:List UInt8} {k:IntKind} {c:Int}:okP (.sslc false true) [.str s,.int k c]=(0≤(0:Int)∧(0:Int)≤c∧c≤(s.length:Int)):=by simp [okP,loB,hiB,qaw]
theorem qny {g:List AObj} {z n:Nat} {f:Nat→List AV} {k:IntKind} {c:Int}:valL g (.slc z false true) [.sl n f,.int k c]= .sl ((c:Int).toNat-(0:Int).toNat) (fun i=>f ((0:Int).toNat+i)):=by simp [valL,loB,hiB]
theorem qpH {g:List AObj} {z n:Nat} {f:Nat→List AV} {k:IntKind} {c:Int}:okL g (.slc z false true) [.sl n f,.int k c]=((0≤(0:Int)∧(0:Int)≤c∧c≤(n:Int))∧(0<n→(f 0).length=z)):=by simp [okL,loB,hiB,qaw,and_assoc]
theorem qnw {g:List AObj} {z w v y p n:Nat} {k:IntKind} {c:Int}:valL g (.slc z false true) [.osl w v y p n,.int k c]= .osl w v y (p+(0:Int).toNat*y) ((c:Int).toNat-(0:Int).toNat):=by simp [valL,loB,hiB]
theorem qpF {g:List AObj} {z w v y p n:Nat} {k:IntKind} {c:Int}:okL g (.slc z false true) [.osl w v y p n,.int k c]=((0≤(0:Int)∧(0:Int)≤c∧c≤(n:Int))∧y=z∧zu g w v=true∧((0:Int)=0∨(0:Int)<n)):=by simp [okL,loB,hiB,qaw,and_assoc]
theorem qqU {s:List UInt8}  :valP (.sslc false false) [.str s]= .str ((s.drop (0:Int).toNat).take (((s.length:Int):Int).toNat-(0:Int).toNat)):=by simp [valP,loB,hiB]
theorem qtX {s:List UInt8}  :okP (.sslc false false) [.str s]=(0≤(0:Int)∧(0:Int)≤(s.length:Int)∧(s.length:Int)≤(s.length:Int)):=by simp [okP,loB,hiB,qaw]
theorem qqO {g:List AObj} {z n:Nat} {f:Nat→List AV}  :valL g (.slc z false false) [.sl n f]= .sl (((n:Int):Int).toNat-(0:Int).toNat) (fun i=>f ((0:Int).toNat+i)):=by simp [valL,loB,hiB]
theorem qtP {g:List AObj} {z n:Nat} {f:Nat→List AV}  :okL g (.slc z false false) [.sl n f]=((0≤(0:Int)∧(0:Int)≤(n:Int)∧(n:Int)≤(n:Int))∧(0<n→(f 0).length=z)):=by simp [okL,loB,hiB,qaw,and_assoc]
theorem qqN {g:List AObj} {z w v y p n:Nat}  :valL g (.slc z false false) [.osl w v y p n]= .osl w v y (p+(0:Int).toNat*y) (((n:Int):Int).toNat-(0:Int).toNat):=by simp [valL,loB,hiB]
theorem qtO {g:List AObj} {z w v y p n:Nat}  :okL g (.slc z false false) [.osl w v y p n]=((0≤(0:Int)∧(0:Int)≤(n:Int)∧(n:Int)≤(n:Int))∧y=z∧zu g w v=true∧((0:Int)=0∨(0:Int)<n)):=by simp [okL,loB,hiB,qaw,and_assoc]
theorem qnE {k l:IntKind} {a c:Int}:valP (.mm true) [.int k a,.int l c]= .int k (max a c):=rfl
theorem qnG {k l:IntKind} {a c:Int}:valP (.mm false) [.int k a,.int l c]= .int k (min a c):=rfl
theorem qnF {k l m:IntKind} {a c e:Int}:valP (.mm true) [.int k a,.int l c,.int m e]= .int k (max (max a c) e):=rfl
theorem qnH {k l m:IntKind} {a c e:Int}:valP (.mm false) [.int k a,.int l c,.int m e]= .int k (min (min a c) e):=rfl
theorem qtT {x:Bool} {k l:IntKind} {a c:Int}:okP (.mm x) [.int k a,.int l c]=True:=by simp [okP,qaw]
theorem qtU {x:Bool} {k l m:IntKind} {a c e:Int}:okP (.mm x) [.int k a,.int l c,.int m e]=True:=by simp [okP,qaw]
theorem qiT {g:List AObj} {n:Nat} {f:Nat→List AV}:valL g .len [.sl n f]= .int .i64 n:=rfl
theorem qlT {g:List AObj} {n:Nat} {f:Nat→List AV}:okL g .len [.sl n f]=True:=rfl
theorem qiS {g:List AObj}:valL g .len [.nl]= .int .i64 0:=rfl
theorem qlS {g:List AObj}:okL g .len [.nl]=True:=rfl
theorem qnK {s:List UInt8}:valP .slen [.str s]= .int .i64 s.length:=rfl
theorem qpQ {s:List UInt8}:okP .slen [.str s]=True:=rfl
theorem qgq {g:List AObj} {k v z p n:Nat}:valL g .len [.osl k v z p n]= .int .i64 n:=rfl
theorem qh9 {g:List AObj} {k v z p n:Nat}:okL g .len [.osl k v z p n]=(zu g k v=true):=rfl
theorem qiR {g:List AObj} {z n:Nat} {f:Nat→List AV} {k:IntKind} {i:Int}:valL g (.idxA z) [.sl n f,.int k i]= .ip (f i.toNat):=rfl
theorem qlR {g:List AObj} {z n:Nat} {f:Nat→List AV} {k:IntKind} {i:Int}:okL g (.idxA z) [.sl n f,.int k i]=((0≤i∧i<n)∧(f i.toNat).length=z):=rfl
theorem qgp {g:List AObj} {z q v y p n:Nat} {k:IntKind} {i:Int}:valL g (.idxA z) [.osl q v y p n,.int k i]= .op q v (p+i.toNat*y):=rfl
theorem qh8 {g:List AObj} {z q v y p n:Nat} {k:IntKind} {i:Int}:okL g (.idxA z) [.osl q v y p n,.int k i]=((0≤i∧i<n)∧y=z∧(cellsOf g q v).isSome=true):=rfl
theorem qiN {g:List AObj} {m z:Nat} {c:List AV} {k:IntKind} {i:Int}:valL g (.idxArr m z) [.ip c,.int k i]= .ip ((c.drop (i.toNat*z)).take z):=rfl
theorem qlM {g:List AObj} {m z:Nat} {c:List AV} {k:IntKind} {i:Int}:okL g (.idxArr m z) [.ip c,.int k i]=((0≤i∧i<m)∧c.length=m*z):=rfl
theorem qiO {g:List AObj} {m z q v p:Nat} {k:IntKind} {i:Int}:valL g (.idxArr m z) [.op q v p,.int k i]= .op q v (p+i.toNat*z):=rfl
theorem qlN {g:List AObj} {m z q v p:Nat} {k:IntKind} {i:Int}:okL g (.idxArr m z) [.op q v p,.int k i]=((0≤i∧i<m)∧(cellsOf g q v).isSome=true):=rfl
theorem qiP {g:List AObj} {p:Nat} {c:List AV}:valL g (.fldA p) [.ip c]= .ip (c.drop p):=rfl
theorem qlP {g:List AObj} {p:Nat} {c:List AV}:okL g (.fldA p) [.ip c]=(p<c.length):=rfl
theorem qiQ {g:List AObj} {p q v o:Nat}:valL g (.fldA p) [.op q v o]= .op q v (o+p):=rfl
theorem qlQ {g:List AObj} {p q v o:Nat}:okL g (.fldA p) [.op q v o]=((cellsOf g q v).isSome=true):=rfl
theorem qnr {g:List AObj} {n:Option Nat} {c:List AV}:valL g (.load n) [.ip c]=cut c 0 n:=rfl
theorem qpA {g:List AObj} {n:Option Nat} {c:List AV}:okL g (.load n) [.ip c]=ji c 0 n:=rfl
theorem qns {g:List AObj} {n:Option Nat} {q v p:Nat}:valL g (.load n) [.op q v p]=cut ((cellsOf g q v).getD []) p n:=rfl
theorem qpB {g:List AObj} {n:Option Nat} {q v p:Nat}:okL g (.load n) [.op q v p]=((cellsOf g q v).isSome=true∧ji ((cellsOf g q v).getD []) p n):=rfl
theorem qnu {g:List AObj} {c:List AV}:valL g .nilchk [.ip c]= .ip c:=rfl
theorem qpD {g:List AObj} {c:List AV}:okL g .nilchk [.ip c]=True:=rfl
theorem qnv {g:List AObj} {q v p:Nat}:valL g .nilchk [.op q v p]= .op q v p:=rfl
theorem qpE {g:List AObj} {q v p:Nat}:okL g .nilchk [.op q v p]=((cellsOf g q v).isSome=true):=rfl
theorem qnt {g:List AObj} {f:Fn} {a c:List AV}:valL g .nilchk [.fn f a c]= .fn f a c:=rfl
theorem qpC {g:List AObj} {f:Nat} {a c:List AV}:okL g .nilchk [.fn (.func f) a c]=True:=rfl
theorem qoI {c:List AV} {p:Nat}:cut c p none=(c[p]?).getD .undef:=rfl
theorem qoJ {c:List AV} {p n:Nat}:cut c p (some n)= .agg ((c.drop p).take n):=rfl
theorem qpi {b w:Bool}:qv (.bool b) w=(b==w):=rfl
theorem qli {g b w:Bool}:qv (.gd g (.bool b)) w=(g&&(b==w)):=rfl
theorem qlj {b:Bool}:qI (.bool b)=true:=rfl
theorem qhW {g b:Bool}:qI (.gd g (.bool b))=true:=rfl
theorem qpU {c:Bool} {x y:AV}:qap (.bool c) x y=((c=true→x.flag=true)∧(c=false→y.flag=true)):=rfl
theorem ql7 {g c:Bool} {x y:AV}:qap (.gd g (.bool c)) x y=(g=true∧(c=true→x.flag=true)∧(c=false→y.flag=true)):=rfl
theorem ql8 {c p q:Bool}:jE (.bool c) (.bool p) (.bool q)= .bool ((c&&p)||(!c&&q)):=rfl
theorem qme {c p q gc:Bool}:jE (.gd gc (.bool c)) (.bool p) (.bool q)= .bool ((c&&p)||(!c&&q)):=rfl
theorem ql9 {c p q gq:Bool}:jE (.bool c) (.bool p) (.gd gq (.bool q))= .bool ((c&&p)||(!c&&q)):=rfl
theorem qmf {c p q gq gc:Bool}:jE (.gd gc (.bool c)) (.bool p) (.gd gq (.bool q))= .bool ((c&&p)||(!c&&q)):=rfl
theorem qma {c p q gp:Bool}:jE (.bool c) (.gd gp (.bool p)) (.bool q)= .bool ((c&&p)||(!c&&q)):=rfl
theorem qmg {c p q gp gc:Bool}:jE (.gd gc (.bool c)) (.gd gp (.bool p)) (.bool q)= .bool ((c&&p)||(!c&&q)):=rfl
theorem qmb {c p q gp gq:Bool}:jE (.bool c) (.gd gp (.bool p)) (.gd gq (.bool q))= .bool ((c&&p)||(!c&&q)):=rfl
theorem qmh {c p q gp gq gc:Bool}:jE (.gd gc (.bool c)) (.gd gp (.bool p)) (.gd gq (.bool q))= .bool ((c&&p)||(!c&&q)):=rfl
theorem qwk {P:Program} {b:Nat} {Q:Ex→Nx} {t:List AV} {h:List AObj}:q9 P b .skip Q t h=Q .normal t h:=(rfl)
theorem qAl {P:Program} {b:Nat} {Q:Ex→Nx} {t:List AV} {h:List AObj} {l:List RO}:q9 P b (.ops l) Q t h=opsA P b l (Q .normal) t h:=(rfl)
theorem qAn {P:Program} {b:Nat} {Q:Ex→Nx} {t:List AV} {h:List AObj} {x y:C}:q9 P b (.seq x y) Q t h=q9 P b x (Ex.andThen (q9 P b y Q) Q) t h:=(rfl)
theorem qwi {P:Program} {b:Nat} {Q:Ex→Nx} {t:List AV} {h:List AObj} {c:X} {x y:C}:q9 P b (.cond c x y) Q t h=qfE (ev t c) (q9 P b x Q) (q9 P b y Q) t h:=(rfl)
theorem qsF {P:Program} {b:Nat} {Q:Ex→Nx} {t:List AV} {h:List AObj} {i:Nat} {x:C}:q9 P b (.block i x) Q t h=q9 P b x (Ex.inBlock i Q) t h:=(rfl)
theorem qwj {P:Program} {b:Nat} {Q:Ex→Nx} {t:List AV} {h:List AObj} {i:Nat}:q9 P b (.exit i) Q t h=Q (.exit i) t h:=(rfl)
theorem qAm {P:Program} {b:Nat} {Q:Ex→Nx} {t:List AV} {h:List AObj}:q9 P b .ret Q t h=Q .ret t h:=(rfl)
theorem qCz {K:Nx} {Q:Ex→Nx} {t:List AV} {h:List AObj}:Ex.andThen K Q .normal t h=K t h:=(rfl)
theorem qCy {K:Nx} {Q:Ex→Nx} {t:List AV} {h:List AObj} {i:Nat}:Ex.andThen K Q (.exit i) t h=Q (.exit i) t h:=(rfl)
theorem qCA {K:Nx} {Q:Ex→Nx} {t:List AV} {h:List AObj}:Ex.andThen K Q .ret t h=Q .ret t h:=(rfl)
theorem qC1 {i:Nat} {Q:Ex→Nx} {t:List AV} {h:List AObj}:Ex.inBlock i Q .normal t h=Q .normal t h:=(rfl)
theorem qC2 {i:Nat} {Q:Ex→Nx} {t:List AV} {h:List AObj}:Ex.inBlock i Q .ret t h=Q .ret t h:=(rfl)
theorem qC0 {i j:Nat} {Q:Ex→Nx} {t:List AV} {h:List AObj}:Ex.inBlock i Q (.exit j) t h=if j=i then Q .normal t h else Q (.exit j) t h:=(rfl)
end AF
end
section
namespace AF
open Go
attribute [go_sem] qyV quM qnA qpJ qxS qyy qxT qyz qxU qyA qxV qyB qxW qyC qxX qyD qxY qyE qxZ qyF qtt qun qph qqf qCS qCR qiD qkV qin qhw qnd qoZ qmT qki qnh qo3 qmX qkm qqE qti qqr qoB qnf qo1 qmV qkk qnb qoX qmR qni qo4 qkn qqB qtf qqo qoy qqD qth qqq qoA qiG qkY qiq qhz qqC qtg qqp qoz qqz qtd qqn qox qnj qo5 qmY qko qgd qhO qf2 qfz qnc qoY qmS qkh qge qhP qf3 qfA qgh qhS qkg qqA qte qDw qBL qBp qzT qyY quN qDx qBM qy1 quP quG qq1 qBm qzR qBt qzV qBs qzU quE qqZ qy7 quT qzb quW qza quV qzc quX qDv qBK qBu qzW qy4 quR qqX qnT qy2 quQ qy6 quS qqY qnU qBx qzX qy9 quU qy8 quD qBq quJ quI qyZ qBn qyW qy0 quO quF qBv qtb qoS qiJ qgi qk1 qhT qjy qjc qjL qjp qjF qjj qjH qjl qjI qjm qjJ qjn qjK qjo qjA qje qjG qjk qjE qji qjD qjh qjC qjg qjB qjf qjz qjd qon qom qjM qjq qed qec qjN qjr qjO qjs qjT qjx qjS qjw qjR qjv qjQ qju qjP qjt qnB qpK qqT qtW qqS qtV qnC qpL qcY qdL qcO qcU qb5 qcJ qbh qeK qdY qeJ qhB qiC qkU qim qhv qlK qh2 qh3 qtL qtK qtJ qpy qqP qtQ qqR qtS qsN qsO qqQ qtR qiX qlW qhL qfH qkP qhK qnI qpO qnJ qpP qiZ qlY qiW qlV qiU qlU qnM qpS qnz qpI qnx qpG qnL qpR qny qpH qnw qpF qqU qtX qqO qtP qqN qtO qnE qnG qnF qnH qtT qtU qiT qlT qiS qlS qnK qpQ qgq qh9 qiR qlR qgp qh8 qiN qlM qiO qlN qiP qlP qiQ qlQ qnr qpA qns qpB qnu qpD qnv qpE qnt qpC qoI qoJ qpi qli qlj qhW qpU ql7 ql8 qme ql9 qmf qma qmg qmb qmh qwk qAl qAn qwi qsF qwj qAm qCz qCy qCA qC1 qC2 qC0
attribute [go_sem] and_true true_and List.drop_zero List.drop_succ_cons List.getElem?_cons_zero List.getElem?_cons_succ Option.getD_some List.length_cons List.length_nil Int.toNat_natCast beq_true imp_self and_self implies_true Bool.and_true Bool.and_false Bool.or_false decide_eq_true_eq Bool.and_eq_true
theorem qmC (t:List AV) (h:List AObj):jX t h []=True:=rfl
theorem qmD (n:Nat) (l:List RV) (t:List AV) (h:List AObj):jX t h (.tmp n::l)=jX t h l:=by simp [jX,RV.ok]
theorem qii (t:List AV) (h:List AObj):zT t h []= []:=rfl
theorem qij (n:Nat) (l:List RV) (t:List AV) (h:List AObj):zT t h (.tmp n::l)=qS n t::zT t h l:=rfl
theorem qqc (v:AV):qfT [v]=v:=rfl
theorem qqd (v u:AV) (l:List AV):qfT (v::u::l)= .tup (v::u::l):=rfl
theorem qhC (c:Bool) (A B:Nx) (t:List AV) (h:List AObj):qfE (.bool c) A B t h=((c=true→A t h)∧(c=false→B t h)):=rfl
theorem qh {n:Int} (h0: -9223372036854775808≤n) (h1:n≤9223372036854775807):IntKind.i64.wrap n=n:=by
 have e1:(2:Int)^IntKind.bits IntKind.i64=18446744073709551616:=rfl
 have e2:(2:Int)^(IntKind.bits IntKind.i64-1)=9223372036854775808:=rfl
 have e3:IntKind.signed IntKind.i64=true:=rfl
 unfold IntKind.wrap
 rw [e1,e2,e3]
 simp only [Bool.true_and,decide_eq_true_eq]
 split<;>omega
theorem qk9 {rs:List RV} {h0:List AObj} {K:AV→List AObj→Prop} {t:List AV} {hh tl:List AObj} {r:AV} (e:hh=h0++tl) (hok:jX t hh rs) (hK:K r h0) (hv:VLe (frz (fun k=>decide (h0.length≤k)) hh 8 (qfT (zT t hh rs))) r):
  fnQ rs h0 K .ret t hh:=by subst e;exact qpb hok hK hv
theorem qt {P:Program} {b:Nat} {x:C} {Q:Ex→Nx} {ι:Type} {t:List AV} {h:List AObj} (T:ι→List AV) (H:ι→List AObj) (inv:ι→Prop) (m:ι→Nat) (i0:ι) (h0:inv i0) (hw:Wk t h (T i0) (H i0))
  (round: ∀i,inv i→ ∀K:Nx,(∀t' h' j,inv j→m j<m i→Wk t' h' (T j) (H j)→K t' h')→q9 P b x (Ex.andThen K Q) (T i) (H i)):q9 P b (.loop x) Q t h:=by
 refine ⟨fun n t h=> ∃i,inv i∧m i=n∧t=T i∧h=H i,⟨m i0,T i0,H i0,hw,i0,h0,rfl,rfl,rfl⟩,?_⟩
 rintro n t' h' ⟨i,hi,rfl,rfl,rfl⟩
 exact round i hi _ (fun t'' h'' j hj hlt hw=>⟨m j,T j,H j,hlt,hw,j,hj,rfl,rfl,rfl⟩)
def qY (n:Nat) (l:List (Nat×AV)):List AV:=l.foldl (fun t p=>zG p.1 t p.2) (List.replicate n .undef)
theorem qbm.nil:qbm [] []:=trivial
theorem qg (a:AV):VLe a .undef=True:=by simp [VLe.undef]
theorem qj (a:AV):VLe a a=True:=by simp [VLe.refl]
theorem qe {k:IntKind} {a b:Int} (h:a=b):VLe (.int k a) (.int k b):=h▸VLe.refl _
theorem qk:qbm [] []=True:=rfl
theorem qi {a b:AV} {l m:List AV}:qbm (a::l) (b::m)=(VLe a b∧qbm l m):=rfl
theorem qb {rs:List RV} {h:List AObj} {t:List AV} {r:AV} (hok:jX t h rs) (hv:VLe (frz (fun k=>decide (h.length≤k)) h 8 (qfT (zT t h rs))) r):fnQ rs h (fun r1 h1=>r1=r∧h1=h) .ret t h:=
 qk9 (tl:= []) (by simp) hok ⟨rfl,rfl⟩ hv
theorem qd {rs:List RV} {h tl:List AObj} {t:List AV} {r:AV} (hok:jX t (h++tl) rs) (hv:VLe (frz (fun k=>decide (h.length≤k)) (h++tl) 8 (qfT (zT t (h++tl) rs))) r):fnQ rs h (fun r1 h1=>r1=r∧h1=h) .ret t (h++tl):=
 qk9 rfl hok ⟨rfl,rfl⟩ hv
section
variable {fz : Nat → Bool} {h : List AObj} {n : Nat}
theorem frz_int {k:IntKind} {a:Int}:frz fz h (n+1) (.int k a)= .int k a:=rfl
theorem frz_bool {a:Bool}:frz fz h (n+1) (.bool a)= .bool a:=rfl
theorem frz_str {a:List UInt8}:frz fz h (n+1) (.str a)= .str a:=rfl
theorem frz_sl {m:Nat} {f:Nat→List AV}:frz fz h (n+1) (.sl m f)= .sl m f:=rfl
theorem frz_nl:frz fz h (n+1) .nl= .nl:=rfl
theorem frz_nilp:frz fz h (n+1) .nilp= .nilp:=rfl
theorem frz_nilfn:frz fz h (n+1) .nilfn= .nilfn:=rfl
theorem frz_ifc:frz fz h (n+1) .ifc= .ifc:=rfl
theorem frz_nilif:frz fz h (n+1) .nilif= .nilif:=rfl
theorem frz_undef:frz fz h (n+1) .undef= .undef:=rfl
theorem frz_ip {cs:List AV}:frz fz h (n+1) (.ip cs)= .ip cs:=rfl
theorem frz_agg {cs:List AV}:frz fz h (n+1) (.agg cs)= .agg (cs.map (frz fz h n)):=rfl
theorem frz_tup {cs:List AV}:frz fz h (n+1) (.tup cs)= .tup (cs.map (frz fz h n)):=rfl
theorem frz_fn {f:Fn} {a b:List AV}:frz fz h (n+1) (.fn f a b)= .fn f (a.map (frz fz h n)) (b.map (frz fz h n)):=rfl
theorem frz_gd {g:Bool} {v:AV}:frz fz h (n+1) (.gd g v)= .gd g (frz fz h n v):=rfl
end
attribute [go_sem] frz_int frz_bool frz_str frz_sl frz_nl frz_nilp frz_nilfn frz_ifc frz_nilif frz_undef frz_ip frz_agg frz_tup frz_fn frz_gd if_true if_false List.map_cons List.map_nil
attribute [go_sem] qhC qmC qmD qii qij qqc qqd
end AF
end
section
namespace AF
open Go
section
variable {h : List AObj} {l : List AObj} {n k v : Nat} {o : AObj} {ty : TypeId} {cs : List AV}
theorem getO_app0:qF h.length (h++l)=l[0]? :=by unfold qF;rw [List.getElem?_append_right (Nat.le_refl _),Nat.sub_self]
theorem getO_app:qF (h.length+n) (h++l)=l[n]? :=by unfold qF;rw [List.getElem?_append_right (by omega),Nat.add_sub_cancel_left]
theorem setO_app0:qJ h.length (h++l) o=h++l.set 0 o:=by unfold qJ;rw [List.set_append_right _ _ (Nat.le_refl _),Nat.sub_self]
theorem setO_app:qJ (h.length+n) (h++l) o=h++l.set n o:=by unfold qJ;rw [List.set_append_right _ _ (by omega),Nat.add_sub_cancel_left]
theorem verOf_mem:qu (some (.mem v ty cs))=v:=rfl
theorem verOf_emp:qu (some (.emp v))=v:=rfl
theorem tyOf_mem:qqH (some (.mem v ty cs))=ty:=rfl
theorem site_app:qK (h++l) (h.length+n)=qK l n:=by unfold qK;rw [getO_app];rfl
theorem site_app0:qK (h++l) h.length=qK l 0:=by unfold qK;rw [getO_app0];rfl
theorem site_0_mem {v:Nat}:qK (.mem v ty cs::l) 0=true:=rfl
theorem site_0_emp {v:Nat}:qK (.emp v::l) 0=true:=rfl
theorem site_s:qK (o::l) (n+1)=qK l n:=rfl
theorem cellsOf_app:cellsOf (h++l) (h.length+n) v=cellsOf l n v:=by unfold cellsOf;rw [getO_app];rfl
theorem cellsOf_app0:cellsOf (h++l) h.length v=cellsOf l 0 v:=by unfold cellsOf;rw [getO_app0];rfl
theorem cellsOf_0 {w:Nat}:cellsOf (.mem w ty cs::l) 0 v=if w=v then some cs else none:=rfl
theorem cellsOf_s:cellsOf (o::l) (n+1) v=cellsOf l n v:=rfl
theorem liveS_app:zu (h++l) (h.length+n) v=zu l n v:=by unfold zu;rw [getO_app];rfl
theorem liveS_app0:zu (h++l) h.length v=zu l 0 v:=by unfold zu;rw [getO_app0];rfl
theorem liveS_0_mem {w:Nat}:zu (.mem w ty cs::l) 0 v=(w==v):=rfl
theorem liveS_0_emp {w:Nat}:zu (.emp w::l) 0 v=(w==v):=rfl
theorem liveS_s:zu (o::l) (n+1) v=zu l n v:=rfl
theorem tyOk_mem {t:TypeId}:qn1 (some (.mem v t cs)) ty=(t==ty):=rfl
theorem tyOk_emp:qn1 (some (.emp v)) ty=true:=rfl
theorem b_add0 {b:Nat}:b+0=b:=rfl
theorem appO_mem {t:TypeId} {ds:List AV} {c m:Nat}:qhq (some (.mem k t ds)) ty v c m cs= .mem (v+1) ty (ds.take c++cs):=rfl
theorem appO_emp {c m:Nat}:qhq (some (.emp k)) ty v c m cs=if m=0 then .emp (v+1) else .mem (v+1) ty cs:=rfl
end
section
variable {b : Nat} {h : List AObj} {t : List AV} {d : Option Nat} {nx : List AV → List AObj → Prop}
theorem qwu {j sz:Nat} {ty:TypeId}:effE b h (.nilo j sz ty) [] t d nx=(qK h (b+j)=true∧nx (qP t d (.osl (b+j) (qu (qF (b+j) h)+1) sz 0 0)) (qJ (b+j) h (.emp (qu (qF (b+j) h)+1)))):=(rfl)
theorem qsW {j:Nat} {ty:TypeId} {z:List AV}:effE b h (.alloc j ty z) [] t d nx=(qK h (b+j)=true∧nx (qP t d (.op (b+j) (qu (qF (b+j) h)+1) 0)) (qJ (b+j) h (.mem (qu (qF (b+j) h)+1) ty z))):=(rfl)
theorem qAt {j:Nat} {ty:TypeId} {v:AV}:effE b h (.box j ty) [v] t d nx=((qK h (b+j)=true∧v.solid=true)∧nx (qP t d (.op (b+j) (qu (qF (b+j) h)+1) 0)) (qJ (b+j) h (.mem (qu (qF (b+j) h)+1) ty v.cells))):=(rfl)
theorem qsZ {n k ver off:Nat} {v:AV}:effE b h (.store n) [.op k ver off,v] t d nx=(((cellsOf h k ver).isSome=true∧v.solid=true∧v.cells.length=n∧off+n≤((cellsOf h k ver).getD []).length)∧
  nx (qP t d (.tup [])) (qJ k h (.mem ver (qqH (qF k h)) (((cellsOf h k ver).getD []).take off++v.cells++((cellsOf h k ver).getD []).drop (off+n))))):=(rfl)
theorem qsY {j sz:Nat} {ty:TypeId} {z:List AV} {bytes:Nat} {l c:Int}:effE b h (.mkslc j sz ty z bytes) [.int .i64 l,.int .i64 c] t d nx=((qK h (b+j)=true∧z.length=sz∧0≤l∧l=c∧c*(bytes:Int)≤140737488355328∧c≤140737488355328)∧
   nx (qP t d (.osl (b+j) (qu (qF (b+j) h)+1) sz 0 l.toNat)) (qJ (b+j) h (.mem (qu (qF (b+j) h)+1) ty (qZ z l.toNat)))):=(rfl)
theorem qwt {j sz n:Nat} {ty:TypeId} {z:List AV} {ps:List (Nat×Nat)} {vs:List AV}:effE b h (.bslc j sz n ty z ps) vs t d nx=((qK h (b+j)=true∧z.length=sz∧kZ (n*sz) ps vs∧n≤140737488355328)∧
   nx (qP t d (.osl (b+j) (qu (qF (b+j) h)+1) sz 0 n)) (qJ (b+j) h (.mem (qu (qF (b+j) h)+1) ty (qak (qZ z n) ps vs)))):=by
 cases vs<;>rfl
theorem qsX {j sz:Nat} {ty:TypeId} {bytes:Nat} {y:AV}:effE b h (.app j sz ty bytes) [.nl,y] t d nx=(((qs h y).isSome=true∧qK h (b+j)=true∧((qs h y).getD (0,[])).2.length=((qs h y).getD (0,[])).1*sz∧
    (((qs h y).getD (0,[])).1:Int)*bytes≤140737488355328∧(((qs h y).getD (0,[])).1:Int)≤140737488355328)∧
   nx (qP t d (.osl (b+j) (qu (qF (b+j) h)+1) sz 0 ((qs h y).getD (0,[])).1))
    (qJ (b+j) h (if ((qs h y).getD (0,[])).1=0 then .emp (qu (qF (b+j) h)+1) else .mem (qu (qF (b+j) h)+1) ty ((qs h y).getD (0,[])).2))):=(rfl)
theorem qAs {j sz:Nat} {ty:TypeId} {bytes k ver sz' off m:Nat} {y:AV}:effE b h (.app j sz ty bytes) [.osl k ver sz' off m,y] t d nx=(((qs h y).isSome=true∧zu h k ver=true∧qn1 (qF k h) ty=true∧m*sz≤((cellsOf h k ver).getD []).length∧qbJ (.osl k ver sz' off m) y=true∧sz'=sz∧off=0∧
    ((qs h y).getD (0,[])).2.length=((qs h y).getD (0,[])).1*sz∧
    ((m+((qs h y).getD (0,[])).1:Nat):Int)*bytes≤140737488355328∧((m+((qs h y).getD (0,[])).1:Nat):Int)≤140737488355328)∧
   nx (qP t d (.osl k (ver+1) sz 0 (m+((qs h y).getD (0,[])).1)))
    (qJ k h (qhq (qF k h) ty ver (m*sz) ((qs h y).getD (0,[])).1 ((qs h y).getD (0,[])).2))):=(rfl)
theorem qoM {j:Nat} {ty:TypeId} {s:List UInt8}:effE b h (.apps j ty) [.nl,.str s] t d nx=((qK h (b+j)=true∧(s.length:Int)≤140737488355328)∧
   nx (qP t d (.osl (b+j) (qu (qF (b+j) h)+1) 1 0 s.length))
    (qJ (b+j) h (if s.length=0 then .emp (qu (qF (b+j) h)+1) else .mem (qu (qF (b+j) h)+1) ty (jl s)))):=(rfl)
theorem qwr {j:Nat} {ty:TypeId} {s:List UInt8} {k ver sz' off m:Nat}:effE b h (.apps j ty) [.osl k ver sz' off m,.str s] t d nx=((zu h k ver=true∧qn1 (qF k h) ty=true∧m≤((cellsOf h k ver).getD []).length∧sz'=1∧off=0∧((m+s.length:Nat):Int)≤140737488355328)∧
   nx (qP t d (.osl k (ver+1) 1 0 (m+s.length)))
    (qJ k h (qhq (qF k h) ty ver m s.length (jl s)))):=(rfl)
theorem qmn {n:Nat} {v:AV}:qP t (some n) v=zG n t v:=rfl
theorem qmm {v:AV}:qP t none v=t:=rfl
theorem qdU:qs h .nl=some (0,[]):=rfl
theorem qdV {n:Nat} {f:Nat→List AV}:qs h (.sl n f)=some (n,(List.range n).flatMap f):=rfl
end
attribute [go_sem] getO_app0 getO_app setO_app0 setO_app verOf_mem verOf_emp tyOf_mem site_app site_app0 site_0_mem site_0_emp site_s cellsOf_app cellsOf_app0 cellsOf_0 cellsOf_s liveS_app liveS_app0 liveS_0_mem liveS_0_emp liveS_s tyOk_mem tyOk_emp b_add0 appO_mem appO_emp
attribute [go_sem] qwu qsW qAt qsZ qsY qwt qsX qAs qoM qwr qmn qmm qdU qdV
attribute [go_sem] List.set_cons_zero List.set_cons_succ Option.isSome_some List.take_zero List.take_succ_cons List.take_nil List.drop_nil List.nil_append List.cons_append List.append_nil Nat.reduceAdd Nat.reduceMul Nat.reduceSub Nat.reduceLeDiff Nat.reduceEqDiff Nat.zero_add
end AF
end
section
namespace AF
open Go
theorem qq {P:Program} {f:Nat} {p:Bool} {vs:List AV} {d:Option Nat} {nx:Nx} {t:List AV} {h:List AObj} {r:AV} (hc:ACalls P f (strips vs) h r h) (hf:flags vs) (hn:nx (qP t d r) h):qj7 P f p vs d nx t h:=
 ⟨hf,r,h,hc,fun _=>rfl,hn⟩
theorem qcm {P:Program} {f:Nat} {vs:List AV} {d:Option Nat} {nx:Nx} {t:List AV} {h h':List AObj} {r:AV} (hc:ACalls P f (strips vs) h r h') (hf:flags vs) (hn:nx (qP t d r) h'):qj7 P f false vs d nx t h:=
 ⟨hf,r,h',hc,by simp,hn⟩
theorem qr {P:Program} {f:Nat} {p g:Bool} {vs:List AV} {d:Option Nat} {nx:Nx} {t:List AV} {h:List AObj} {r:AV} (hc:g=true→flags vs∧ACalls P f (strips vs) h r h) (hn:nx (qP t d (.gd g r)) h):qj9 P f p g vs d nx t h:=
 ⟨r,h,fun e=>⟨(hc e).1,(hc e).2,fun _=>rfl⟩,fun _=>rfl,hn⟩
theorem qBa {t:List AV} {h:List AObj}:jX t h []:=trivial
theorem qBb {t:List AV} {h:List AObj} {n:Nat} {l:List RV} (hl:jX t h l):jX t h (.tmp n::l):=⟨trivial,hl⟩
theorem qtk:flags []:=trivial
theorem qtj {a:AV} {l:List AV} (h:a.flag=true) (t:flags l):flags (a::l):=⟨h,t⟩
theorem ql {P:Program} {f:Nat} {p:Bool} {vs:List AV} {d:Option Nat} {nx:Nx} {t:List AV} {h:List AObj} (r:AV) (hn:nx (qP t d (.gd false r)) h):qj9 P f p false vs d nx t h:=by
 refine ⟨r,h,?_,fun _=>rfl,hn⟩
 intro e;cases e
theorem qa {a b:Bool} (h:a=b):VLe (.bool a) (.bool b):=h▸VLe.refl _
theorem qf {a b:List UInt8} (h:a=b):VLe (.str a) (.str b):=h▸VLe.refl _
theorem qvj {n m:Nat} {f g:Nat→List AV} (e:n=m) (h: ∀i,i<m→f i=g i):VLe (.sl n f) (.sl m g):=by
 subst e
 intro w σ x hx
 have h1:=zI rfl hx
 cases h1 with
 |nilsl=>exact .imm .nilsl
 |sl sz b off cap vals hn hm hb hlt hsz hc h1 hv=>
  refine .imm (.sl sz b off cap vals hn hm hb hlt (fun i hi=> ?_) hc h1 (fun i j c hi hj=> ?_))
  ·rw [←h i hi];exact hsz i hi
  ·rw [←h i hi]at hj;exact hv i j c hi hj
theorem kq {f:Nat→List AV}:VLe .nl (.sl 0 f):=by
 intro w σ x hx
 have h1:=zI rfl hx
 cases h1 with
 |nl=>exact .imm .nilsl
theorem kS {l m:List AV} (h:qbm l m):VLe (.tup l) (.tup m):=by
 intro w σ x hx
 obtain ⟨vs,rfl,hl,hv⟩:=qe6 hx
 refine .tup (by rw [hl,h.length]) (fun i c x hc hx=> ?_)
 obtain ⟨a,ha,hle⟩:=h.get i c hc
 exact hle w σ x (hv i a x ha hx)
def qrb (v:AV) (h:List AObj) (m:Option Nat):Prop:=
 match v with
 | .op k ver off=>okL h (.load m) [.op k ver off]
 |_=>False
theorem qih {n:Nat} {m:Option Nat} {l:List RV} {t:List AV} {h:List AObj}:jX t h (.cell n m::l)=(qrb (qS n t) h m∧jX t h l):=rfl
theorem qfY {n:Nat} {m:Option Nat} {l:List RV} {t:List AV} {h:List AObj}:zT t h (.cell n m::l)=valL h (.load m) [qS n t]::zT t h l:=rfl
theorem qkd {k ver off:Nat} {h:List AObj} {m:Option Nat}:qrb (.op k ver off) h m=okL h (.load m) [.op k ver off]:=rfl
attribute [go_sem] qih qfY qkd
theorem qff:zf [] [] []=some true:=rfl
theorem qfe {ks:List AK} {k:IntKind} {a c:Int} {l m:List AV}:zf (.int::ks) (.int k a::l) (.int k c::m)=(zf ks l m).map (fun y=>decide (a=c)&&y):=by
 simp only [zf,kr,if_true]
 cases zf ks l m<;>rfl
theorem qea {ks:List AK} {a c:Bool} {l m:List AV}:zf (.bool::ks) (.bool a::l) (.bool c::m)=(zf ks l m).map (fun y=>(a==c)&&y):=by
 simp only [zf,kr]
 cases zf ks l m<;>rfl
theorem qfg {ks:List AK} {a c:List UInt8} {l m:List AV}:zf (.str::ks) (.str a::l) (.str c::m)=(zf ks l m).map (fun y=>decide (a=c)&&y):=by
 simp only [zf,kr]
 cases zf ks l m<;>rfl
attribute [go_sem] qff qfe qea qfg Option.map_some Bool.true_bne Bool.false_bne Bool.bne_false
theorem qtY {a b:Bool}:(a|| !a&&b)=(a||b):=by cases a<;>simp
theorem qAb {a:Bool}:(a==false)= !a:=by cases a<;>rfl
attribute [go_sem] qtY qAb Bool.not_eq_true' Bool.or_eq_true decide_eq_false_iff_not Bool.or_eq_false_iff Bool.not_eq_false' Bool.and_eq_false_imp Bool.true_or Bool.or_true Bool.false_or Bool.true_and Bool.not_true Bool.not_false decide_not Bool.not_not
end AF
end
section
namespace AF
open Go
theorem qk8 {rs:List RV} {h0 h' tl:List AObj} {K:AV→List AObj→Prop} {t:List AV} {r:AV} (hok:jX t (h'++tl) rs) (hl:h'.length=h0.length) (hlow: ∀o∈h',o∈h0∨qaa h0.length o) (hK:K r h')
  (hv:VLe (frz (fun k=>decide (h0.length≤k)) (h'++tl) 8 (qfT (zT t (h'++tl) rs))) r):fnQ rs h0 K .ret t (h'++tl):=
 ⟨r,h',hK,hok,⟨tl,rfl⟩,hl,hlow,VOut.of 8 hv⟩
theorem qpa {rs:List RV} {h0 h' tl:List AObj} {K:AV→List AObj→Prop} {t:List AV} {r:AV} (hok:jX t (h'++tl) rs) (hl:h'.length=h0.length) (hlow: ∀o∈h',o∈h0∨qaa h0.length o) (hK:K r h')
  (hv:VLe (frz (fun k=>decide (h0.length≤k)) (h'++tl) 8 (qfT (zT t (h'++tl) rs))) r):fnQ rs h0 K .normal t (h'++tl):=
 ⟨r,h',hK,hok,⟨tl,rfl⟩,hl,hlow,VOut.of 8 hv⟩
section
variable {k v : Nat} {h l : List AObj} {o o' : AObj} {ty : TypeId} {cs : List AV}
theorem jy (hk:k<h.length):qF k (h++l)=qF k h:=by unfold qF;rw [List.getElem?_append_left hk]
theorem qmF (hk:k<h.length):qJ k (h++l) o=qJ k h o++l:=by unfold qJ;rw [List.set_append_left _ _ hk]
theorem jh:(qJ k h o).length=h.length:=by unfold qJ;simp
theorem qa2 (hk:k<h.length):qF k (qJ k h o)=some o:=by unfold qF qJ;rw [List.getElem?_set_self hk]
theorem qeV:qJ k (qJ k h o) o'=qJ k h o':=by unfold qJ;rw [List.set_set]
theorem qV (e:qF k h=some (.mem v ty cs)):cellsOf h k v=some cs:=by unfold cellsOf;rw [e];simp
theorem jn (e:qF k h=some o):k<h.length:=by unfold qF at e;exact (List.getElem?_eq_some_iff.1 e).1
theorem qgR {x:AObj} (hx:x∈qJ k h o):x∈h∨x=o:=by
 unfold qJ at hx
 exact List.mem_or_eq_of_mem_set hx
theorem qeh (hk:k<h.length):cellsOf (h++l) k v=cellsOf h k v:=by unfold cellsOf;rw [jy hk]
end
section
variable {k v w n : Nat} {h l : List AObj} {o o' : AObj} {ty : TypeId} {cs : List AV}
theorem qdC (hk:k<h.length):qF k (qJ k h o++l)=some o:=by rw [jy (by rw [jh];exact hk),qa2 hk]
theorem qcr (hk:k<h.length):cellsOf (qJ k h (.mem w ty cs)++l) k v=if w=v then some cs else none:=by unfold cellsOf;rw [qdC hk]
theorem qqg (hk:k<h.length):qJ k (qJ k h o++l) o'=qJ k h o'++l:=by rw [qmF (by rw [jh];exact hk),qeV]
theorem getO_seta:qF (h.length+n) (qJ k h o++l)=l[n]? :=by
 have:= @getO_app (qJ k h o) l n
 rwa [jh]at this
theorem getO_seta0:qF h.length (qJ k h o++l)=l[0]? :=by
 have:= @getO_app0 (qJ k h o) l
 rwa [jh]at this
theorem setO_seta:qJ (h.length+n) (qJ k h o++l) o'=qJ k h o++l.set n o':=by
 have:= @setO_app (qJ k h o) l n o'
 rwa [jh]at this
theorem setO_seta0:qJ h.length (qJ k h o++l) o'=qJ k h o++l.set 0 o':=by
 have:= @setO_app0 (qJ k h o) l o'
 rwa [jh]at this
theorem cellsOf_seta:cellsOf (qJ k h o++l) (h.length+n) v=cellsOf l n v:=by unfold cellsOf;rw [getO_seta];rfl
theorem cellsOf_seta0:cellsOf (qJ k h o++l) h.length v=cellsOf l 0 v:=by unfold cellsOf;rw [getO_seta0];rfl
theorem site_seta:qK (qJ k h o++l) (h.length+n)=qK l n:=by unfold qK;rw [getO_seta];rfl
theorem site_seta0:qK (qJ k h o++l) h.length=qK l 0:=by unfold qK;rw [getO_seta0];rfl
theorem liveS_seta:zu (qJ k h o++l) (h.length+n) v=zu l n v:=by unfold zu;rw [getO_seta];rfl
theorem liveS_seta0:zu (qJ k h o++l) h.length v=zu l 0 v:=by unfold zu;rw [getO_seta0];rfl
end
attribute [go_sem] getO_seta getO_seta0 setO_seta setO_seta0 cellsOf_seta cellsOf_seta0 site_seta site_seta0 liveS_seta liveS_seta0
theorem qmG {k:Nat} {h:List AObj} {o:AObj} (e:qF k h=some o):qJ k h o=h:=by
 unfold qF at e;unfold qJ
 obtain ⟨h1,h2⟩:=List.getElem?_eq_some_iff.1 e
 rw [←h2];exact List.set_getElem_self h1
theorem qqb:qfT []= .tup []:=rfl
attribute [go_sem] qqb
end AF
end
section
namespace AF
open Go
def qCc (c:Option (List AV)) (g:AV→AV) (off:Nat):AV:=
 match c with
 |some cs=> .ip ((cs.drop off).map g)
 |none=> .undef
def qdn (o:Option AObj) (ver sz off len:Nat) (g:AV→AV):AV:=
 match o with
 |some (.mem ve _ cs)=>if ve=ver∧off+len*sz≤cs.length then .sl len (fun i=>((cs.drop (off+i*sz)).take sz).map g) else .undef
 |some (.emp ve)=>if ve=ver then .nl else .undef
 |_=> .undef
section
variable {fz : Nat → Bool} {h : List AObj} {n k ver sz off len : Nat}
theorem rei_op:rei fz h (n+1) (.op k ver off)=if fz k=true then qCc (cellsOf h k ver) (rei fz h n) off else .undef:=rfl
theorem rei_osl:rei fz h (n+1) (.osl k ver sz off len)=if fz k=true then qdn (qF k h) ver sz off len (rei fz h n) else .undef:=rfl
theorem frz_op:frz fz h (n+1) (.op k ver off)=if fz k=true then rei fz h (n+1) (.op k ver off) else .op k ver off:=rfl
theorem frz_osl:frz fz h (n+1) (.osl k ver sz off len)=if fz k=true then rei fz h (n+1) (.osl k ver sz off len) else .osl k ver sz off len:=rfl
theorem ipOf_some {cs:List AV} {g:AV→AV}:qCc (some cs) g off= .ip ((cs.drop off).map g):=rfl
theorem slOf_mem {cs:List AV} {g:AV→AV} {ve:Nat} {ty:TypeId}:qdn (some (.mem ve ty cs)) ver sz off len g=if ve=ver∧off+len*sz≤cs.length then .sl len (fun i=>((cs.drop (off+i*sz)).take sz).map g) else .undef:=rfl
theorem slOf_emp {g:AV→AV} {ve:Nat}:qdn (some (.emp ve)) ver sz off len g=if ve=ver then .nl else .undef:=rfl
theorem rei_int {k:IntKind} {a:Int}:rei fz h (n+1) (.int k a)= .int k a:=rfl
theorem rei_bool {a:Bool}:rei fz h (n+1) (.bool a)= .bool a:=rfl
theorem rei_str {a:List UInt8}:rei fz h (n+1) (.str a)= .str a:=rfl
theorem rei_sl {m:Nat} {f:Nat→List AV}:rei fz h (n+1) (.sl m f)= .sl m f:=rfl
theorem rei_nl:rei fz h (n+1) .nl= .nl:=rfl
theorem rei_ip {cs:List AV}:rei fz h (n+1) (.ip cs)= .ip cs:=rfl
theorem rei_agg {cs:List AV}:rei fz h (n+1) (.agg cs)= .agg (cs.map (rei fz h n)):=rfl
theorem rei_tup {cs:List AV}:rei fz h (n+1) (.tup cs)= .tup (cs.map (rei fz h n)):=rfl
theorem rei_fn {f:Fn} {a b:List AV}:rei fz h (n+1) (.fn f a b)= .fn f (a.map (rei fz h n)) (b.map (rei fz h n)):=rfl
theorem rei_nilp:rei fz h (n+1) .nilp= .nilp:=rfl
theorem rei_undef:rei fz h (n+1) .undef= .undef:=rfl
end
attribute [go_sem] rei_op rei_osl frz_op frz_osl ipOf_some slOf_mem slOf_emp rei_int rei_bool rei_str rei_sl rei_nl rei_ip rei_agg rei_tup rei_fn rei_nilp rei_undef Nat.le_add_right Nat.le_refl Nat.mul_one Nat.one_mul
theorem qq0 {P:Program} {b:Nat} {r:List RO} {K:Nx} {t:List AV} {h:List AObj} {d:Option Nat} {xs:List X} {j:Nat} {u:Bool}:opsA P b (⟨d,some (j,u),.callv,xs⟩::r) K t h=
  (qI (qS j t)=true∧(qv (qS j t) u=true→flags (evs t xs)∧qb1 P (strips (evs t xs)) d (opsA P b r K) t h)∧(qv (qS j t) u=false→opsA P b r K (qP t d .undef) h)):=by simp only [opsA,stepO,zZ,R.kd]
theorem qka {P:Program} {k:Nat} {args:List AV} {d:Option Nat} {nx:Nx} {t:List AV} {h:List AObj}:qb1 P (.yld k::args) d nx t h=((∃s ts L,qF k h=some (.lp s ts L))∧ko P k args h fun v h'=>nx (qP t d v) h'):=(rfl)
theorem qcZ:valP (.un .not) [.undef]= .bool true:=rfl
theorem qmc {g q:Bool}:jE (.bool false) (.gd g .undef) (.bool q)= .bool q:=rfl
attribute [go_sem] qq0 qka qcZ qmc true_implies false_implies Bool.false_eq_true Bool.true_eq_false
end AF
end
section
namespace AF
open Go
theorem qlZ {P:Program} {b:Nat} {l:List RO}: ∀ {nx nx':Nx} {t:List AV} {h:List AObj},(∀t h,nx t h→nx' t h)→opsA P b l nx t h→opsA P b l nx' t h:=by
 induction l with
 |nil=>intro nx nx' t h hn H;exact hn _ _ H
 |cons o l ih=>intro nx nx' t h hn H;exact jM (fun t h H=>ih hn H) H
theorem qdP {h0:List AObj} {t:List AV} {Q Q':Ex→Nx} {h:List AObj} (hq: ∀e t h,Q e t h→Q' e t h) (H:qdO h0 t Q h):qdO h0 t Q' h:=by
 obtain ⟨hh,s,ts,L,h1,h2,h3,h4⟩:=H
 refine ⟨hh,s,ts,L,h1,h2,h3,?_⟩
 cases s with
 |ready=>exact hq _ _ _ h4
 |ret=>exact hq _ _ _ h4
 |exit id=>exact hq _ _ _ h4
 |busy=>exact h4
theorem qas {P:Program} {b:Nat} {x:C}: ∀ {Q Q':Ex→Nx} {t:List AV} {h:List AObj},(∀e t h,Q e t h→Q' e t h)→q9 P b x Q t h→q9 P b x Q' t h:=by
 induction x with
 |skip=>intro Q Q' t h hq H;exact hq _ _ _ H
 |ops l=>intro Q Q' t h hq H;exact qlZ (fun t h H=>hq _ _ _ H) H
 |seq x y ihx ihy=>
  intro Q Q' t h hq H
  refine ihx (fun e t h H=> ?_) H
  cases e with
  |normal=>exact ihy hq H
  |exit id=>exact hq _ _ _ H
  |ret=>exact hq _ _ _ H
 |cond c x y ihx ihy=>
  intro Q Q' t h hq H
  simp only [q9,qfE]at*
  split at H
  ·exact ⟨fun e=>ihx hq (H.1 e),fun e=>ihy hq (H.2 e)⟩
  ·exact ⟨ihx hq H.1,ihy hq H.2⟩
  ·exact H.elim
 |block id x ih=>
  intro Q Q' t h hq H
  refine ih (fun e t h H=> ?_) H
  cases e with
  |normal=>exact hq _ _ _ H
  |ret=>exact hq _ _ _ H
  |exit i=>
   simp only [Ex.inBlock]at*
   split
   ·rename_i e;rw [if_pos e]at H;exact hq _ _ _ H
   ·rename_i e;rw [if_neg e]at H;exact hq _ _ _ H
 |loop x ih=>
  intro Q Q' t h hq H
  obtain ⟨I,h1,h2⟩:=H
  refine ⟨I,h1,fun n t' h' hi=>ih (fun e t h H=> ?_) (h2 n t' h' hi)⟩
  cases e with
  |normal=>exact H
  |exit id=>exact hq _ _ _ H
  |ret=>exact hq _ _ _ H
 |range u ps x y ihx ihy=>
  intro Q Q' t h hq H L hy
  have:=H L hy
  split at this
  ·exact this.le (qbm.refl _) (fun v h' hr=>⟨v,VLe.refl _,qdP hq hr⟩)
  ·exact this
 |exit id=>intro Q Q' t h hq H;exact hq _ _ _ H
 |ret=>intro Q Q' t h hq H;exact hq _ _ _ H
 |wk=>
  intro Q Q' t h hq H
  obtain ⟨t',h',h1,h2⟩:=H
  exact ⟨t',h',h1,hq _ _ _ h2⟩
 |draw d=>
  intro Q Q' t h hq H
  obtain ⟨M,h1,h2⟩:=H
  exact ⟨M,h1,fun t' h' hm=>hq _ _ _ (h2 t' h' hm)⟩
 |bad=>intro Q Q' t h hq H;exact H
def qur (o:Option AObj) (ver sz off n:Nat):Option (Nat×List AV):=
 match o with
 |some (.mem v _ cs)=>if v=ver∧off+n*sz≤cs.length then some (n,(cs.drop off).take (n*sz)) else none
 |some (.emp v)=>if v=ver∧n=0 then some (0,[]) else none
 |_=>none
theorem qcW {h:List AObj} {k ver sz off n:Nat}:qs h (.osl k ver sz off n)=qur (qF k h) ver sz off n:=rfl
theorem qmQ {v ver sz off n:Nat} {ty:TypeId} {cs:List AV}:qur (some (.mem v ty cs)) ver sz off n=if v=ver∧off+n*sz≤cs.length then some (n,(cs.drop off).take (n*sz)) else none:=rfl
theorem qmP {v ver sz off n:Nat}:qur (some (.emp v)) ver sz off n=if v=ver∧n=0 then some (0,[]) else none:=rfl
theorem qhp {k v z p n k' v' z' p' n':Nat}:qbJ (.osl k v z p n) (.osl k' v' z' p' n')=(k !=k'):=rfl
theorem qi7 {k v z p n m:Nat} {f:Nat→List AV}:qbJ (.osl k v z p n) (.sl m f)=true:=rfl
theorem qi6 {k v z p n:Nat}:qbJ (.osl k v z p n) .nl=true:=rfl
attribute [go_sem] Int.toNat_zero decide_true decide_false beq_self_eq_true
attribute [go_sem] qcW qmQ qmP qhp qi7 qi6
theorem qgo {g:List AObj} {z:Nat} {i:AV}:valL g (.idxA z) [.nl,i]= .undef:=rfl
theorem qcN {g:List AObj} {n:Option Nat}:valL g (.load n) [.undef]= .undef:=rfl
theorem qcX {g:List AObj} {n:Nat}:valL g (.fldA n) [.undef]= .undef:=rfl
theorem qhs {op:BinOp} {y:AV}:qaB op .undef y= .undef:=rfl
theorem qmi {p g:Bool}:jE (.bool true) (.bool p) (.gd g .undef)= .bool p:=rfl
theorem qmd {p g:Bool}:jE (.bool false) (.gd g .undef) (.bool p)= .bool p:=rfl
attribute [go_sem] qgo qcN qcX qhs qmi qmd
theorem qsG {P:Program} {b:Nat} {u:X} {ps:List Nat} {x y:C} {Q:Ex→Nx} {t:List AV} {h:List AObj}:q9 P b (.range u ps x y) Q t h=qeO P (ev t u) ps (q9 P b x) (q9 P b y) Q t h:=(rfl)
attribute [go_sem] qsG
end AF
end
section
namespace AF
open Go
theorem HR.move {w:World} {σ:List OB} {h:List AObj} (H:HR w σ h) {k j vj:Nat} {ty:TypeId} {cs:List AV} (hj:qF j h=some (.mem vj ty cs)) (hk:qK h k=true) (hne:k≠j):
  ∃σ',HR w σ' (qJ k (qJ j h (.emp (vj+1))) (.mem (qu (qF k h)+1) ty cs))∧Ext w σ w σ'∧
   ∀sz off len x,VR w σ (.osl j vj sz off len) x→VR w σ' (.osl k (qu (qF k h)+1) sz off len) x:=by
 obtain ⟨ok,hok,hver⟩:=zO H hk
 have hjl:j<σ.length:=by rw [H.len];exact jn hj
 have hkl:k<σ.length:=(List.getElem?_eq_some_iff.1 hok).1
 obtain ⟨oj,hoj⟩: ∃oj,σ[j]? =some oj:=⟨_,List.getElem?_eq_getElem hjl⟩
 have hobj:=H.obj j _ oj hj hoj
 obtain ⟨m1,m2,b,arr,m3,m4,m5,m6,m7,m8⟩:=hobj
 rw [hver]
 let oj':OB:= { oj with blk:=none,ver:=oj.ver+1 }
 let ok':OB:= { oj with ver:=ok.ver+1 }
 let σ':=(σ.set j oj').set k ok'
 have gk:σ'[k]? =some ok':=by simp [σ',hkl]
 have gj:σ'[j]? =some oj':=by simp only [σ'];rw [List.getElem?_set_ne hne];simp [hjl]
 have go: ∀i,i≠k→i≠j→σ'[i]? =σ[i]? :=by
  intro i h1 h2
  simp only [σ']
  rw [List.getElem?_set_ne (fun e=>h1 e.symm),List.getElem?_set_ne (fun e=>h2 e.symm)]
 have blk: ∀(i:Nat) (o:OB) (b:Nat),σ'[i]? =some o→o.blk=some b→(i=k∧oj.blk=some b)∨(i≠k∧i≠j∧σ[i]? =some o):=by
  intro i o b h1 h2
  by_cases e1:i=k
  ·subst e1;rw [gk]at h1;cases h1;exact .inl ⟨rfl,h2⟩
  ·by_cases e2:i=j
   ·subst e2;rw [gj]at h1;cases h1;cases h2
   ·rw [go i e1 e2]at h1;exact .inr ⟨e1,e2,h1⟩
 have hext:Ext w σ w σ':=by
  refine ⟨rfl,rfl,rfl,Nat.le_refl _,fun _ _ _=>rfl,?_,?_,fun b r h=>⟨r,h⟩⟩
  ·rintro b ⟨i,o,h1,h2⟩
   rcases blk i o b h1 h2 with ⟨_,h3⟩|⟨_,_,h3⟩
   ·exact .inl ⟨j,oj,hoj,h3⟩
   ·exact .inl ⟨i,o,h3,h2⟩
  ·intro i o h1
   by_cases e1:i=k
   ·subst e1;rw [hok]at h1;cases h1;exact ⟨ok',gk,by simp [ok'],by simp [ok']⟩
   ·by_cases e2:i=j
    ·subst e2;rw [hoj]at h1;cases h1;exact ⟨oj',gj,by simp [oj'],by simp [oj']⟩
    ·exact ⟨o,by rw [go i e1 e2];exact h1,Nat.le_refl _,fun _=>rfl⟩
 refine ⟨σ',⟨by simp [σ',qJ,H.len],?_,?_,?_⟩,hext,?_⟩
 ·intro i i' o o' b h1 h2 h3 h4
  rcases blk i o b h1 h3 with ⟨rfl,g1⟩|⟨g0,g1,g2⟩<;>rcases blk i' o' b h2 h4 with ⟨rfl,g1'⟩|⟨g0',g1',g2'⟩
  ·rfl
  ·exact absurd (H.inj i' j o' oj b g2' hoj h4 g1) g1'
  ·exact absurd (H.inj i j o oj b g2 hoj h3 g1') g1
  ·exact H.inj i i' o o' b g2 g2' h3 h4
 ·intro i o b h1 h2
  rcases blk i o b h1 h2 with ⟨_,g1⟩|⟨_,_,g2⟩
  ·exact H.lt j oj b hoj g1
  ·exact H.lt i o b g2 h2
 ·intro i a o ha ho
  by_cases e1:i=k
  ·subst e1
   have hkh:i<(qJ j h (.emp (vj+1))).length:=by rw [jh,←H.len];exact hkl
   have:=qa2 (o:= .mem (ok.ver+1) ty cs) hkh
   unfold qF at this
   rw [this]at ha
   cases ha
   rw [gk]at ho
   cases ho
   exact ⟨rfl,m2,b,arr,m3,m4,m5,m6,m7,fun i c x hc hx=>(m8 i c x hc hx).ext hext⟩
  ·by_cases e2:i=j
   ·subst e2
    have hjh:i<h.length:=by rw [←H.len];exact hjl
    simp only [qJ]at ha
    rw [List.getElem?_set_ne hne,List.getElem?_set_self hjh]at ha
    cases ha
    rw [gj]at ho
    cases ho
    exact ⟨by simp [oj',m1],rfl⟩
   ·rw [go i e1 e2]at ho
    simp only [qJ]at ha
    rw [List.getElem?_set_ne (fun e=>e1 e.symm),List.getElem?_set_ne (fun e=>e2 e.symm)]at ha
    exact (H.obj i a o ha ho).ext hext (fun _ _=>rfl)
 ·intro sz off len x hx
  cases hx with
  |imm h=>cases h
  |osl o ho hs hle hh=>
   rw [hoj]at ho
   cases ho
   refine .osl ok' gk hs (Nat.le_refl _) (fun _=> ?_)
   exact hh m1
def fnM (rs:List RV) (h0:List AObj) (k:Nat) (K:AV→List AObj→Prop):Ex→Nx
 | .exit _,_,_=>False
 |_,t,hh=> ∃(j vj sz off len:Nat) (ty:TypeId) (cs:List AV) (tl:List AObj),jX t hh rs∧qfT (zT t hh rs)= .osl j vj sz off len∧hh=h0++tl∧h0.length≤j∧qF j hh=some (.mem vj ty cs)∧
   (∀c∈cs,jf h0.length c=true)∧qK h0 k=true∧K (.osl k (qu (qF k h0)+1) sz off len) (qJ k h0 (.mem (qu (qF k h0)+1) ty cs))
theorem qhn {P:Program} {f nt ns:Nat} {rs:List RV} {c:C} (hf:qR P f nt ns rs c) {args:List AV} {h:List AObj} {K:AV→List AObj→Prop} (k:Nat) (ha:args.length≤nt)
  (hw:q9 P h.length c (fnM rs h k K) (args++List.replicate (nt-args.length) .undef) (h++List.replicate ns (.emp 0))):jA P f args h K:=by
 obtain ⟨fn,body,js,imp,wks,h1,h2,h3,rfl,rfl,h6,h7⟩:=hf
 refine ⟨by simp [okF,h1,h2,h3],fun w σ xs H hv=> ?_⟩
 refine callsIn_of_wp_marks h1 h2 trivial ?_
 obtain ⟨p1,p2⟩:=H.pushN js.length
 have hsr:SR w.heap.size w (σ++List.replicate js.length ⟨none,0,0,0⟩) (args++List.replicate (fn.ntmps-args.length) .undef) (h++List.replicate js.length (.emp 0))
   { tmps:=xs.toArray++Array.replicate (fn.ntmps-xs.toArray.size) Go.undef,defers:= [] }:=by
  refine ⟨p1,by simp [hv.1],fun i c x hc hx=> ?_,⟨[],rfl,.nil,Nat.le_refl _,by simp⟩⟩
  rw [List.getElem?_append]at hc
  simp only [Array.getElem?_append]at hx
  have hz:xs.toArray.size=args.length:=by simp [hv.1]
  split at hc
  ·rename_i hi
   rw [if_pos (by omega)]at hx
   exact (hv.2 i c x hc (by simpa using hx)).ext p2
  ·rw [List.getElem?_replicate]at hc
   split at hc
   ·cases hc;exact .imm .undef
   ·cases hc
 refine wpIn_mono (qgC (b:=h.length) h7 w.heap.size none _ w _ _ _ _ hw (by simp) hsr) ?_
 rintro e a' w' ⟨z,σ',t',hh,he,g1,g2,g3⟩
 have key:(∃(j vj sz off len:Nat) (ty:TypeId) (cs:List AV) (tl:List AObj),jX t' hh rs∧qfT (zT t' hh rs)= .osl j vj sz off len∧hh=h++tl∧h.length≤j∧qF j hh=some (.mem vj ty cs)∧
   (∀c∈cs,jf h.length c=true)∧qK h k=true∧K (.osl k (qu (qF k h)+1) sz off len) (qJ k h (.mem (qu (qF k h)+1) ty cs)))→
   LeavesInM Fence.wide 0 P fn a'.tmps (fun e w'=> ∃v σ' r h',K r h'∧e= .returned v∧HR w' σ' h'∧VR w' σ' r v∧Ext w σ w' σ') a'.defers .returning w':=by
  rintro ⟨j,vj,sz,off,len,ty,cs,tl,k1,k2,rfl,k3,k4,k5,k6,hK⟩
  obtain ⟨ms,d1,d2,d3,d4⟩:=g1.df
  rw [d1]
  refine qbS (N:=w.heap.size) ms w' d2 (fun r hr=>⟨(d4 r hr).1,(d4 r hr).2.2.2⟩) (fun w1 e1=> ?_)
  have H1:=g1.hr.dt e1
  obtain ⟨v,v1,v2⟩:=qdj (P:=P) H1 g1.sz (fun i c x hc hx=>(g1.tm i c x hc hx).dt e1) h6 k1
  rw [k2]at v2
  have ee:Ext w σ w1 σ':=(p2.trans g2).dt e1
  have hkl:k<h.length:=by
   have:=k6
   unfold qK at this
   split at this
   ·rename_i hx;exact jn hx
   ·rename_i hx;exact jn hx
   ·rename_i hx;exact jn hx
   ·cases this
  have hkt:qK (h++tl) k=true:=by unfold qK at k6 ⊢;rw [jy hkl];exact k6
  obtain ⟨σ2,q1,q2,q3⟩:=H1.move k4 hkt (by omega)
  have q3':=q3 _ _ _ _ v2
  rw [jy hkl]at q1 q3'
  have eh:qJ k (qJ j (h++tl) (.emp (vj+1))) (.mem (qu (qF k h)+1) ty cs)=qJ k h (.mem (qu (qF k h)+1) ty cs)++qJ (j-h.length) tl (.emp (vj+1)):=by
   unfold qJ
   rw [List.set_append_right _ _ k3,List.set_append_left _ _ hkl]
  rw [eh]at q1
  obtain ⟨m1,m2⟩:=HR.trunc H (ee.trans q2) q1 jh (fun o ho=>by
   rcases qgR ho with h1|rfl
   ·exact .inl h1
   ·exact .inr k5)
  refine ⟨v,v1,v,_,_,_,hK,rfl,m1,?_,m2⟩
  cases q3' with
  |imm h=>cases h
  |osl o ho hs hle hh=>
   refine .osl o ?_ hs hle hh
   rw [List.getElem?_take,if_pos hkl]
   exact ho
 cases e with
 |normal=>cases he;exact key g3
 |ret=>cases he;exact key g3
 |exit id=>cases he;exact g3.elim
 |goto l=>cases he
 |panic c=>cases he
 |outgrown=>cases he
theorem qr1 {P:Program} {f nt ns:Nat} {rs:List RV} {c:C} (hf:qR P f nt ns rs c) {args:List AV} {h:List AObj} {r:AV} {h':List AObj} (k:Nat) (ha:args.length≤nt)
  (hw:q9 P h.length c (fnM rs h k fun r1 h1=>r1=r∧h1=h') (args++List.replicate (nt-args.length) .undef) (h++List.replicate ns (.emp 0))):ACalls P f args h r h':=(qhn hf k ha hw).calls
end AF
end
section
namespace AF
open Go
section
variable {P : Program} {b : Nat} {r : List RO} {K : Nx} {t : List AV} {h : List AObj} {d : Option Nat} {xs : List X} {j : Nat} {u : Bool}
theorem wg_bslc {i z n:Nat} {ty:TypeId} {zs:List AV} {ps:List (Nat×Nat)}:opsA P b (⟨d,some (j,u),.bslc i z n ty zs ps,xs⟩::r) K t h=
  (qI (qS j t)=true∧(qv (qS j t) u=true→flags (evs t xs)∧effE b h (.bslc i z n ty zs ps) (strips (evs t xs)) t d (opsA P b r K))∧(qv (qS j t) u=false→opsA P b r K (qP t d .undef) h)):=by simp only [opsA,stepO,zZ,R.kd]
theorem wg_box {i:Nat} {ty:TypeId}:opsA P b (⟨d,some (j,u),.box i ty,xs⟩::r) K t h=
  (qI (qS j t)=true∧(qv (qS j t) u=true→flags (evs t xs)∧effE b h (.box i ty) (strips (evs t xs)) t d (opsA P b r K))∧(qv (qS j t) u=false→opsA P b r K (qP t d .undef) h)):=by simp only [opsA,stepO,zZ,R.kd]
theorem wg_app {i z m:Nat} {ty:TypeId}:opsA P b (⟨d,some (j,u),.app i z ty m,xs⟩::r) K t h=
  (qI (qS j t)=true∧(qv (qS j t) u=true→flags (evs t xs)∧effE b h (.app i z ty m) (strips (evs t xs)) t d (opsA P b r K))∧(qv (qS j t) u=false→opsA P b r K (qP t d .undef) h)):=by simp only [opsA,stepO,zZ,R.kd]
end
attribute [go_sem] wg_bslc wg_box wg_app
end AF
end
section
namespace AF
open Go
def qkf (o:Option AObj) (ver:Nat):Option (List AV):=
 match o with
 |some (.mem v _ cs)=>if v=ver then some cs else none
 |_=>none
def qrJ (o:Option AObj) (ver:Nat):Bool:=
 match o with
 |some (.mem v _ _)=>v==ver
 |some (.emp v)=>v==ver
 |_=>false
section
variable {h l : List AObj} {i j k ver v : Nat} {o o' o'' : AObj} {ty : TypeId} {cs : List AV}
theorem qcq:cellsOf h k ver=qkf (qF k h) ver:=rfl
theorem qeD:zu h k ver=qrJ (qF k h) ver:=rfl
theorem qcp:qkf (some (.mem v ty cs)) ver=if v=ver then some cs else none:=rfl
theorem qdc:qrJ (some (.mem v ty cs)) ver=(v==ver):=rfl
theorem qbN (hne:k≠j):qF k (qJ j h o)=qF k h:=by unfold qF qJ;rw [List.getElem?_set_ne (fun e=>hne e.symm)]
end
end AF
end
section
namespace AF
open Go
theorem qa5 {α β:Type} {f:α→Option β}: ∀ {l:List α} {ys:List β},l.mapM f=some ys→ys.length=l.length∧ ∀(i:Nat) x y,l[i]? =some x→ys[i]? =some y→f x=some y:=by
 intro l
 induction l with
 |nil=>intro ys h;simp at h;subst h;simp
 |cons a l ih=>
  intro ys h
  rw [List.mapM_cons]at h
  cases ha:f a with
  |none=>simp [ha]at h
  |some b=>
   cases hl:l.mapM f with
   |none=>simp [ha,hl]at h
   |some zs=>
    simp [ha,hl]at h
    subst h
    obtain ⟨h1,h2⟩:=ih hl
    refine ⟨by simp [h1],fun i x y hx hy=> ?_⟩
    cases i with
    |zero=>simp at hx hy;subst hx hy;exact ha
    |succ i=>exact h2 i x y (by simpa using hx) (by simpa using hy)
inductive FK where
 |bool
 |int (k:IntKind)
 |str
 deriving DecidableEq
section
variable {H : Type} {enc : TypeId × Value → H} {P : Program} {w : World} {sp : Nat → Bool} {held : Bool} {ow : Nat → Prop}
end
theorem HR.nil (w:World):HR w [] []:=⟨rfl,by simp,by simp,by simp⟩
theorem ql3 (b:Nat): ¬own [] b:=fun ⟨k,o,h,_⟩=>by simp at h
theorem VRs.nil' {w:World} {σ:List OB}:VRs w σ [] []:=⟨rfl,by simp⟩
theorem VRs.cons' {w:World} {σ:List OB} {a:AV} {v:Value} {as:List AV} {vs:List Value} (h:VR w σ a v) (h':VRs w σ as vs):VRs w σ (a::as) (v::vs):=by
 refine ⟨by simp [h'.1],fun i c x hc hx=> ?_⟩
 cases i with
 |zero=>simp at hc hx;subst hc hx;exact h
 |succ i=>exact h'.2 i c x (by simpa using hc) (by simpa using hx)
end AF
end
section
namespace AF
open Go Go.ChangeShapes Go.WideShapes Go.ChangeAt Go.RowKit
section
variable {H : Type} {enc : TypeId × Value → H} {P : Program} {W W' : World}
theorem qe4 (hl:laidOutB P=true) (hb:Below W.heap.size W W'): ∀ {ts:List TypeId} {vs:List Value} {ds:List (DataW H)} {ps:List MemPlace},(∀t∈ts,P.readableRec t=true∧t<P.types.size)→
  (∀x∈ps,x.block<W.heap.size)→DataW.TrodAll enc P W 0 (fun _=>true) true ts vs ds ps→DataW.TrodAll enc P W' 0 (fun b=>decide (b<W.heap.size)) true ts vs ds ps:=by
 intro ts
 induction ts with
 |nil=>
  intro vs ds ps _ _ h
  match vs,ds,h with
  | [],[],h=>exact h
 |cons t ts ih=>
  intro vs ds ps ht hp h
  match vs,ds,h with
  |v::vs,d::ds,⟨p,q,h1,h2,e⟩=>
   subst e
   refine ⟨p,q,?_,?_,rfl⟩
   ·exact Below.trod hl (ht t (by simp)).1 (ht t (by simp)).2 h1 hb (fun x hx=>hp x (by simp [hx]))
   ·exact ih (fun u hu=>ht u (by simp [hu])) (fun x hx=>hp x (by simp [hx])) h2
theorem qpr {f:Func} {s:ChangeSpec} {args:Array Value} {ds:List (DataW H)} {before:List MemPlace} {tb:TypeId} (hl:laidOutB P=true) (hv:s.vars= []) (hfn:s.fn H ds= { results:= [.lit (.bool true)],args:=ds })
  (hrt:f.resultTypes= #[tb]) (htb:P.underlying tb=some .bool) (hro: ∀t∈f.params.toList,P.readableRec t=true∧t<P.types.size)
  (hW:DataW.Whole enc P f.params.toList s.vars false W args.toList ds [] before) (hA:DataW.TrodAll enc P W 0 (fun _=>true) true f.params.toList args.toList ds before) (hb:Below W.heap.size W W'):
  s.post enc P f false true false false W args (.bool true) W':=by
 have hlt: ∀x∈before,x.block<W.heap.size:=fun x hx=>hW.lt x hx
 refine ⟨ds,[],before,[],before,[],hW,?_,?_,?_,?_,fun h=>by cases h⟩
 ·rw [List.append_nil,hfn,hrt]
  exact ⟨[],[],shut_bool htb true,rfl,rfl⟩
 ·rw [List.append_nil,hfn]
  exact qe4 hl hb hro hlt hA
 ·rw [List.append_nil,hfn,hv]
  rfl
 ·exact World.keptBut_mono (fun x hx=>⟨hx,.inr (.inl hx)⟩) (hb.frame (· ∈before))
end
end AF
end
section
namespace AF
open Go
def qqG (P:Program):Nat→List Field→Option Nat
 |n,[]=>some n
 |n,f::r=>if f.offset=n then qqG P (n+P.cellsOf f.type) r else none
def qbc (P:Program):Nat→TypeId→Bool
 |0,_=>false
 |d+1,t=>match P.underlying t with
  |some .bool=>decide (P.cellsOf t=1)
  |some (.int _)=>decide (P.cellsOf t=1)
  |some .string=>decide (P.cellsOf t=1)
  |some (.slice e)=>decide (P.cellsOf t=1)&&(decide (0<P.cellsOf e)&&qbc P d e)
  |some (.struct fs)=>decide (qqG P 0 fs.toList=some (P.cellsOf t))&&fs.toList.all fun f=>qbc P d f.type
  |_=>false
def qN (P:Program):Nat→TypeId→List AV→Prop
 |0,_,_=>False
 |d+1,t,as=>match P.underlying t with
  |some .bool=> ∃b,as= [.bool b]
  |some (.int k)=> ∃n,as= [.int k n]∧(Lit.int k n).wf=true
  |some .string=> ∃s:List UInt8,as= [.str s]∧s.length≤maxLen
  |some (.slice e)=> ∃(n:Nat) (f:Nat→List AV),as= [.sl n f]∧n≤maxLen∧ ∀i,i<n→qN P d e (f i)
  |some (.struct fs)=>as.length=P.cellsOf t∧ ∀f∈fs.toList,qN P d f.type ((as.drop f.offset).take (P.cellsOf f.type))
  |_=>False
section
variable {H : Type} {enc : TypeId × Value → H} {P : Program} {w : World} {held : Bool} {ow : Nat → Prop}
structure qaf (w:World) (ow:Nat→Prop) (as:List AV) (cs:List Value):Prop where
 len:cs.length=as.length
 one: ∀(i:Nat) v,cs[i]? =some v→v.oneCell'=true
 vi: ∀(i:Nat) c v,as[i]? =some c→cs[i]? =some v→VI w ow c v
theorem qaf.single {a:AV} {v:Value} (h1:v.oneCell'=true) (h2:VI w ow a v):qaf w ow [a] [v]:=by
 refine ⟨rfl,fun i x hx=> ?_,fun i c x hc hx=> ?_⟩
 ·cases i<;>simp at hx;subst hx;exact h1
 ·cases i<;>simp at hx hc;subst hx hc;exact h2
theorem qaf.append {as bs:List AV} {cs ds:List Value} (h:qaf w ow as cs) (h':qaf w ow bs ds):qaf w ow (as++bs) (cs++ds):=by
 have hl:=h.len
 refine ⟨by simp [hl,h'.len],fun i v hv=> ?_,fun i c v hc hv=> ?_⟩
 ·rw [List.getElem?_append]at hv
  split at hv
  ·exact h.one i v hv
  ·exact h'.one _ v hv
 ·rw [List.getElem?_append]at hc hv
  split at hv
  ·rename_i hi
   rw [if_pos (by omega)]at hc
   exact h.vi i c v hc hv
  ·rename_i hi
   rw [if_neg (by omega),←hl]at hc
   exact h'.vi _ c v hc hv
theorem qfG {d fuel:Nat} (ih: ∀(t:TypeId) (cs:List Value) (dd:DataW H) (ps:List MemPlace),qbc P d t=true→DataW.trod enc P w 0 (fun _=>true) held fuel t cs=some (dd,ps)→ ∃as,qN P d t as∧as.length=P.cellsOf t∧qaf w ow as cs) {cs:List Value}:
  ∀(fs:List Field) (n m:Nat) (xs:List (DataW H×List MemPlace)),qqG P n fs=some m→(∀f∈fs,qbc P d f.type=true)→m≤cs.length→
   fs.mapM (fun f=>DataW.trod enc P w 0 (fun _=>true) held fuel f.type ((cs.drop f.offset).take (P.cellsOf f.type)))=some xs→
   n≤m∧ ∃as,(∀f∈fs,n≤f.offset∧qN P d f.type ((as.drop (f.offset-n)).take (P.cellsOf f.type)))∧as.length=m-n∧qaf w ow as ((cs.drop n).take (m-n)):=by
 intro fs
 induction fs with
 |nil=>
  intro n m xs ht _ hm _
  cases ht
  exact ⟨Nat.le_refl _,[],by simp,by simp,⟨by simp,by simp,by simp⟩⟩
 |cons f r ihr=>
  intro n m xs ht hk hm hx
  simp only [qqG]at ht
  split at ht
  ·rename_i hoff
   rw [List.mapM_cons]at hx
   cases ha:DataW.trod enc P w 0 (fun _=>true) held fuel f.type ((cs.drop f.offset).take (P.cellsOf f.type))with
   |none=>simp [ha]at hx
   |some y=>
    cases hl:r.mapM (fun f=>DataW.trod enc P w 0 (fun _=>true) held fuel f.type ((cs.drop f.offset).take (P.cellsOf f.type)))with
    |none=>simp [ha,hl]at hx
    |some zs=>
     obtain ⟨g0,as1,g1,g2,g3⟩:=ihr (n+P.cellsOf f.type) m zs ht (fun g hg=>hk g (by simp [hg])) hm hl
     obtain ⟨as0,k1,k2,k3⟩:=ih f.type _ y.1 y.2 (hk f (by simp)) (by rw [ha])
     rw [hoff]at k3
     refine ⟨by omega,as0++as1,fun g hg=> ?_,by rw [List.length_append,k2,g2];omega,?_⟩
     ·rcases List.mem_cons.1 hg with rfl|hg
      ·refine ⟨by omega,?_⟩
       rw [hoff,Nat.sub_self,List.drop_zero,List.take_append_of_le_length (by omega),List.take_of_length_le (by omega)]
       exact k1
      ·obtain ⟨q1,q2⟩:=g1 g hg
       refine ⟨by omega,?_⟩
       rw [List.drop_append,List.drop_of_length_le (by omega),List.nil_append,show g.offset-n-as0.length=g.offset-(n+P.cellsOf f.type) by omega]
       exact q2
     ·have e:(cs.drop n).take (m-n)=(cs.drop n).take (P.cellsOf f.type)++(cs.drop (n+P.cellsOf f.type)).take (m-(n+P.cellsOf f.type)):=by
       rw [show m-n=P.cellsOf f.type+(m-(n+P.cellsOf f.type)) by omega,List.take_add,List.drop_drop]
      rw [e]
      exact k3.append g3
  ·cases ht
theorem qm2 {a:Addr} {v:Value} (h:w.cell? a=some v): ∃b off,a=⟨b,off,none⟩∧b<w.heap.size:=by
 obtain ⟨b,off,spot⟩:=a
 unfold World.cell? at h
 split at h
 ·rename_i c e f hb
  split at h
  ·cases h
  ·rename_i hs
   cases spot with
   |some _=>simp at hs
   |none=>exact ⟨b,off,rfl,(Array.getElem?_eq_some_iff.1 hb).1⟩
 ·cases h
theorem qkE (how: ∀b,¬ow b): ∀(d fuel:Nat) (t:TypeId) (cs:List Value) (dd:DataW H) (ps:List MemPlace),qbc P d t=true→DataW.trod enc P w 0 (fun _=>true) held fuel t cs=some (dd,ps)→
  ∃as,qN P d t as∧as.length=P.cellsOf t∧qaf w ow as cs:=by
 intro d
 induction d with
 |zero=>intro fuel t cs dd ps hk;cases hk
 |succ d ih=>
  intro fuel t cs dd ps hk h
  unfold qbc at hk
  unfold qN
  split at hk
  ·rename_i ht
   have hc:=of_decide_eq_true hk
   obtain ⟨b,rfl,_⟩:=DataW.trod_bool ht h
   exact ⟨[.bool b],⟨b,rfl⟩,hc.symm,qaf.single rfl .bool⟩
  ·rename_i k ht
   have hc:=of_decide_eq_true hk
   obtain ⟨n,rfl,_,hw⟩:=DataW.trod_int ht h
   exact ⟨[.int k n],⟨n,rfl,hw⟩,hc.symm,qaf.single rfl .int⟩
  ·rename_i ht
   have hc:=of_decide_eq_true hk
   obtain ⟨s,rfl,_,hw⟩:=DataW.trod_string ht h
   have hsz:s.data.toList.length≤maxLen:=by rw [Array.length_toList];exact hw
   exact ⟨[.str s.data.toList],⟨_,rfl,hsz⟩,hc.symm,qaf.single rfl (by have:= @VI.str w ow s.data.toList;rw [Array.toArray_toList]at this;exact this)⟩
  ·rename_i e ht
   simp only [Bool.and_eq_true,decide_eq_true_eq]at hk
   obtain ⟨hc,hpos,hk⟩:=hk
   cases fuel with
   |zero=>simp [DataW.trod]at h
   |succ fuel=>
    have hcs:(cs= [.slice none 0 0])∨ ∃a len cap,cs= [.slice (some a) len cap]:=by
     unfold DataW.trod at h
     rw [ht]at h
     split at h<;>first|(rename_i g _;cases g;done)|skip
     all_goals first|(rename_i g;cases g;done)|skip
     all_goals first|exact .inl rfl|exact .inr ⟨_,_,_,rfl⟩|(cases h;done)
    rcases hcs with rfl|⟨a,len,cap,rfl⟩
    ·exact ⟨[.sl 0 fun _=> []],⟨0,fun _=> [],rfl,Nat.zero_le _,fun i hi=>absurd hi (Nat.not_lt_zero _)⟩,hc.symm,qaf.single rfl .nilsl⟩
    ·simp only [DataW.trod,ht]at h
     split at h
     ·rename_i hcc
      obtain ⟨_,c1,c2⟩:=hcc
      rw [Option.bind_eq_some_iff]at h
      obtain ⟨elems,hm,hrest⟩:=h
      rw [Option.map_eq_some_iff]at hrest
      obtain ⟨rest,hrest,_⟩:=hrest
      try simp only [if_true]at hrest
      obtain ⟨m1,m2⟩:=qa5 hm
      obtain ⟨r1,r2⟩:=qa5 hrest
      simp only [List.length_range]at m1 r1
      have all: ∀i,i<cap→ ∃x,((w.cells? 0 (a.add (i*P.cellsOf e)) (P.cellsOf e)).bind (DataW.trod enc P w 0 (fun _=>true) held fuel e))=some x:=by
       intro i hi
       by_cases hl:i<len
       ·exact ⟨_,m2 i i _ (by simp [hl]) (List.getElem?_eq_getElem (by omega))⟩
       ·have:=r2 (i-len) (i-len) _ (by rw [List.getElem?_range (by omega)]) (List.getElem?_eq_getElem (by omega))
        rw [show len+(i-len)=i by omega]at this
        exact ⟨_,this⟩
      by_cases hcap:cap=0
      ·subst hcap
       have:len=0:=by omega
       subst this
       exact ⟨[.sl 0 fun _=> []],⟨0,fun _=> [],rfl,Nat.zero_le _,fun i hi=>absurd hi (Nat.not_lt_zero _)⟩,hc.symm,qaf.single rfl .nilsl⟩
      ·obtain ⟨x0,h0⟩:=all 0 (by omega)
       rw [Option.bind_eq_some_iff]at h0
       obtain ⟨cs0,h0,_⟩:=h0
       rw [Nat.zero_mul]at h0
       have hadd0:a.add 0=a:=by simp [Addr.add]
       rw [hadd0]at h0
       unfold World.cells? at h0
       rw [if_pos (Nat.zero_le _)]at h0
       obtain ⟨n1,n2⟩:=qa5 h0
       simp only [List.length_range]at n1
       have hcell:=n2 0 0 _ (by simp [hpos]) (List.getElem?_eq_getElem (show 0<cs0.length by omega))
       rw [hadd0]at hcell
       obtain ⟨b,off,rfl,hlt⟩:=qm2 hcell
       have hadd: ∀n,(⟨b,off,none⟩:Addr).add n=⟨b,off+n,none⟩:=by
        intro n;unfold Addr.add;split
        ·rename_i h;subst h;rfl
        ·rfl
       have hadd2: ∀n m,(⟨b,off+n,none⟩:Addr).add m=⟨b,off+n+m,none⟩:=by
        intro n m;unfold Addr.add;split
        ·rename_i h;subst h;rfl
        ·rfl
       have key: ∀i,i<len→ ∃(as:List AV) (cs:List Value),qN P d e as∧as.length=P.cellsOf e∧qaf w ow as cs∧(∀(j:Nat) v,cs[j]? =some v→w.cell? ⟨b,off+i*P.cellsOf e+j,none⟩=some v):=by
        intro i hi
        obtain ⟨x,hx⟩:=all i (by omega)
        rw [Option.bind_eq_some_iff]at hx
        obtain ⟨cs,h3,h4⟩:=hx
        obtain ⟨as,f1,f2,f3⟩:=ih fuel e cs x.1 x.2 hk h4
        rw [hadd]at h3
        unfold World.cells? at h3
        rw [if_pos (Nat.zero_le _)]at h3
        obtain ⟨n1,n2⟩:=qa5 h3
        simp only [List.length_range]at n1
        refine ⟨as,cs,f1,f2,f3,fun j v hj=> ?_⟩
        have hjl:j<P.cellsOf e:=by have:=(List.getElem?_eq_some_iff.1 hj).1;omega
        have:=n2 j j v (by simp [hjl]) hj
        rw [hadd2]at this
        exact this
       have ex: ∃g:Nat→List AV×List Value,∀i,i<len→qN P d e (g i).1∧(g i).1.length=P.cellsOf e∧qaf w ow (g i).1 (g i).2∧(∀(j:Nat) v,(g i).2[j]? =some v→w.cell? ⟨b,off+i*P.cellsOf e+j,none⟩=some v):=by
        refine ⟨fun i=>if hi:i<len then ((key i hi).choose,(key i hi).choose_spec.choose) else ([],[]),fun i hi=> ?_⟩
        simp only [dif_pos hi]
        exact (key i hi).choose_spec.choose_spec
       obtain ⟨g,hg⟩:=ex
       refine ⟨[.sl len fun i=>(g i).1],⟨len,fun i=>(g i).1,rfl,Nat.le_trans c1 c2,fun i hi=>(hg i hi).1⟩,hc.symm,qaf.single rfl (.sl (P.cellsOf e) b off cap (fun i j=>(g i).2.getD j Go.undef) c1 c2 (fun _=>how b) hlt (fun i hi=>(hg i hi).2.1) (fun i j hi hj=> ?_) (fun i j hi hj=> ?_) (fun i j c hi hc=> ?_))⟩
       ·obtain ⟨_,q2,q3,q4⟩:=hg i hi
        have hl:=q3.len
        have e:(g i).2[j]? =some (g i).2[j]:=List.getElem?_eq_getElem (by omega)
        rw [q4 j _ e,List.getD_eq_getElem?_getD,e];rfl
       ·obtain ⟨_,q2,q3,q4⟩:=hg i hi
        have hl:=q3.len
        have e:(g i).2[j]? =some (g i).2[j]:=List.getElem?_eq_getElem (by omega)
        rw [List.getD_eq_getElem?_getD,e];exact q3.one j _ e
       ·obtain ⟨_,q2,q3,q4⟩:=hg i hi
        have hl:=q3.len
        have hj:=(List.getElem?_eq_some_iff.1 hc).1
        have e:(g i).2[j]? =some (g i).2[j]:=List.getElem?_eq_getElem (by omega)
        rw [List.getD_eq_getElem?_getD,e];exact q3.vi j c _ hc e
     ·cases h
  ·rename_i fs ht
   simp only [Bool.and_eq_true,decide_eq_true_eq,List.all_eq_true]at hk
   obtain ⟨htile,hk⟩:=hk
   cases fuel with
   |zero=>simp [DataW.trod]at h
   |succ fuel=>
    simp only [DataW.trod,ht]at h
    split at h
    ·rename_i hcl
     rw [Option.map_eq_some_iff]at h
     obtain ⟨xs,hm,_⟩:=h
     obtain ⟨_,as,g1,g2,g3⟩:=qfG (fun t cs dd ps=>ih fuel t cs dd ps) fs.toList 0 (P.cellsOf t) xs htile hk (by omega) hm
     rw [Nat.sub_zero]at g2 g3
     rw [List.drop_zero,List.take_of_length_le (by omega)]at g3
     exact ⟨as,⟨g2,fun f hf=>by have:=(g1 f hf).2;rwa [Nat.sub_zero]at this⟩,g2,g3⟩
    ·cases h
  ·cases hk
theorem qg2 (how: ∀b,¬ow b) {d:Nat} {t:TypeId} {cs:Array Value} {dd:DataW H} {ps:List MemPlace} (hk:qbc P d t=true) (h:DataW.Trod enc P w 0 (fun _=>true) held t (.agg cs) dd ps): ∃as,qN P d t as∧VI w ow (.agg as) (.agg cs):=by
 obtain ⟨fuel,h⟩:=h
 obtain ⟨as,g1,g2,g3⟩:=qkE how d fuel t _ dd ps hk h
 refine ⟨as,g1,.agg ?_ (fun i x hx=>g3.one i x ?_) (fun i c x hc hx=>g3.vi i c x hc ?_)⟩
 ·have:=g3.len;simpa [Value.cells] using this
 ·simpa [Value.cells] using hx
 ·simpa [Value.cells] using hx
end
end AF
end
section
namespace AF
open Go
def ja (v:Nat) (ty:TypeId) (cs:List AV):AObj:=if cs= [] then .emp v else .mem v ty cs
section
variable {h l : List AObj} {k v w n c : Nat} {ty : TypeId} {cs ms : List AV} {a : AV} {o : AObj}
theorem jD (h:cs≠ []):ja v ty cs= .mem v ty cs:=if_neg h
theorem verOf_own:qu (some (ja v ty cs))=v:=by unfold ja;split<;>rfl
theorem site_own0:qK (ja v ty cs::l) 0=true:=by unfold ja;split<;>rfl
theorem liveS_own0:zu (ja v ty cs::l) 0 w=(v==w):=by unfold ja;split<;>rfl
theorem tyOk_own:qn1 (some (ja v ty cs)) ty=true:=by
 unfold ja
 split
 ·rfl
 ·simp [qn1]
theorem cells_own0:((cellsOf (ja v ty cs::l) 0 v).getD [])=cs:=by
 unfold ja
 split
 ·rename_i e;rw [e];rfl
 ·rw [cellsOf_0,if_pos rfl];rfl
theorem cellsS_own0:((cellsOf (ja v ty cs::l) 0 v).isSome=true)=(cs≠ []):=by
 unfold ja
 split
 ·rename_i e;rw [e];simp [cellsOf,qF]
 ·rename_i e;rw [cellsOf_0,if_pos rfl];simp [e]
theorem qod {b:AV}:qhq (some (ja v ty cs)) ty w c (n+1) (b::ms)=ja (w+1) ty (cs.take c++b::ms):=by
 rw [show ja (w+1) ty (cs.take c++b::ms)= .mem (w+1) ty (cs.take c++b::ms)from jD (by simp)]
 unfold ja
 split
 ·rename_i e
  rw [e]
  simp [qhq]
 ·rfl
theorem appO_own1 {b:AV}:qhq (some (ja v ty cs)) ty w c 1 (b::ms)=ja (w+1) ty (cs.take c++b::ms):=qod (n:=0)
end
attribute [go_sem] verOf_own site_own0 liveS_own0 tyOk_own cells_own0 cellsS_own0 appO_own1
end AF
end
section
namespace AF
open Go
def LowI (h hh:List AObj):Prop:=hh.length=h.length∧ ∀o∈hh,o∈h∨(qaa h.length o∧qaa (h.length+1) o)
theorem LowI.refl (h:List AObj):LowI h h:=⟨rfl,fun _ ho=> .inl ho⟩
theorem kw {hh tl:List AObj} {o:AObj} {k:Nat} (h:hh.length=k):qF k (hh++o::tl)=some o:=by subst h;exact getO_app0
theorem qbX {hh tl:List AObj} {o o':AObj} {k:Nat} (h:hh.length=k):qJ k (hh++o::tl) o'=hh++o'::tl:=by subst h;exact setO_app0
def qu1 (P:Program) (f:FuncId) (cap:List AV) (xs:List (List AV)):Prop:=
 ∀(h:List AObj) (ts:List AV) (L:LInfo) (S:Nat→List AObj→Prop) (E:LS→List AObj→Prop),
  (∀i hh,S i hh→LowI h hh)→(∀s hh,E s hh→LowI h hh)→
  (∀i hh tl,(hi:i<xs.length)→S i hh→ko P h.length (xs[i]) (hh++ .lp .ready ts L::tl) (fun r h'=> ∃hh',(r= .bool true∧S (i+1) hh'∧h'=hh'++ .lp .ready ts L::tl)∨(∃s,r= .bool false∧E s hh'∧h'=hh'++ .lp s ts L::tl)))→
  S 0 h→(∀c∈ts,jf (h.length+1) c=true)→
  jA P f (.yld h.length::cap) (h++ [.lp .ready ts L]) (fun _ h'=> ∃hh,(S xs.length hh∧h'=hh++ [.lp .ready ts L])∨ ∃s,E s hh∧h'=hh++ [.lp s ts L])
theorem qic {P:Program} {f:FuncId} {cap:List AV} {xs:List (List AV)} (hf:qu1 P f cap xs) {ps:List Nat} {b:Nat} {x y:C} {Q:Ex→Nx} {ts:List AV} {h:List AObj} (hps: ∀a∈xs,a.length=ps.length)
  (S:Nat→List AObj→Prop) (E:Ex→List AObj→Prop) (hS: ∀i hh,S i hh→LowI h hh) (hE: ∀s hh,E s hh→LowI h hh)
  (start:S 0 h) (hts: ∀c∈ts,jf (h.length+1) c=true)
  (body: ∀i hh tl L,(hi:i<xs.length)→S i hh→hh.length=h.length→
   q9 P b x (fun e t2 h2=>e= .normal∧h2=hh++ .lp .ready ts L::tl∧
    q9 P b y (fun e t3 h3=> ∃hh',h3=hh'++ .lp .busy ts L::tl∧hh'.length=h.length∧match e with
     | .normal=>S (i+1) hh'
     | .ret=>E .ret hh'
     | .exit id=>E (.exit id) hh') t2 (hh++ .lp .busy ts L::tl)) (qb4 ts ps (xs[i])) (hh++ .lp .ready ts L::tl))
  (done: ∀hh,S xs.length hh→Q .normal ts hh) (doneE: ∀e hh,E e hh→match e with
   | .normal=>False
   |e=>Q e ts hh):
  qeO P (.fn (.func f) [] cap) ps (q9 P b x) (q9 P b y) Q ts h:=by
 intro L hy
 show jA _ _ _ _ _
 have key:=hf h ts L S (fun s hh=>match s with
  | .ret=>E .ret hh
  | .exit id=>E (.exit id) hh
  |_=>False) hS
  (by
   intro s hh hs
   cases s with
   |ret=>exact hE _ _ hs
   |exit id=>exact hE _ _ hs
   |ready=>exact hs.elim
   |busy=>exact hs.elim)
  (by
   intro i hh tl hi i4
   have hlen:=(hS _ _ i4).1
   refine hy h.length ts _ _ _ (kw hlen) (hps _ (List.getElem_mem hi)) ?_
   have hb:=body i hh tl L hi i4 hlen
   refine qas ?_ hb
   rintro e t2 h2 ⟨rfl,rfl,h3⟩
   refine ⟨rfl,⟨ts,kw hlen⟩,fun ts' hts'=> ?_⟩
   rw [kw hlen]at hts'
   cases hts'
   rw [qbX hlen]
   refine qas ?_ h3
   rintro e t3 h3' ⟨hh',rfl,g1,g2⟩
   refine ⟨ts,kw g1,?_⟩
   cases e with
   |normal=>exact ⟨hh',.inl ⟨rfl,g2,qbX g1⟩⟩
   |ret=>exact ⟨hh',.inr ⟨.ret,rfl,g2,qbX g1⟩⟩
   |exit id=>exact ⟨hh',.inr ⟨.exit id,rfl,g2,qbX g1⟩⟩)
  start hts
 refine key.le (qbm.refl _) ?_
 rintro v h' ⟨hh,⟨g1,rfl⟩|⟨s,g1,rfl⟩⟩
 ·have hl:=hS _ _ g1
  exact ⟨v,VLe.refl _,hh,.ready,ts,L,rfl,hl.1,fun o ho=>(hl.2 o ho).imp (fun h=>h) And.left,done hh g1⟩
 ·cases s with
  |ready=>exact g1.elim
  |busy=>exact g1.elim
  |ret=>
   have hl:=hE _ _ g1
   exact ⟨v,VLe.refl _,hh,.ret,ts,L,rfl,hl.1,fun o ho=>(hl.2 o ho).imp (fun h=>h) And.left,doneE _ _ g1⟩
  |exit id=>
   have hl:=hE _ _ g1
   exact ⟨v,VLe.refl _,hh,.exit id,ts,L,rfl,hl.1,fun o ho=>(hl.2 o ho).imp (fun h=>h) And.left,doneE _ _ g1⟩
theorem qo9 {rs:List RV} {h0 h':List AObj} {K:AV→List AObj→Prop} {t:List AV} {r:AV} (hok:jX t h' rs) (hl:h'.length=h0.length) (hlow: ∀o∈h',o∈h0∨qaa h0.length o) (hK:K r h')
  (hv:VLe (frz (fun k=>decide (h0.length≤k)) h' 8 (qfT (zT t h' rs))) r):fnQ rs h0 K .ret t h':=
 ⟨r,h',hK,hok,⟨[],(List.append_nil _).symm⟩,hl,hlow,VOut.of 8 hv⟩
theorem ku {rs:List RV} {h0 h':List AObj} {K:AV→List AObj→Prop} {t:List AV} {r:AV} (hok:jX t h' rs) (hl:h'.length=h0.length) (hlow: ∀o∈h',o∈h0∨qaa h0.length o) (hK:K r h')
  (hv:VLe (frz (fun k=>decide (h0.length≤k)) h' 8 (qfT (zT t h' rs))) r):fnQ rs h0 K .normal t h':=
 ⟨r,h',hK,hok,⟨[],(List.append_nil _).symm⟩,hl,hlow,VOut.of 8 hv⟩
end AF
end
section
namespace AF
open Go
section
variable {P : Program} {b : Nat} {r : List RO} {K : Nx} {t : List AV} {h : List AObj} {xs : List X}
theorem qBo {d:Nat}:opsA P b (⟨some d,none,.b2s,xs⟩::r) K t h=(flags (evs t xs)∧okL h .b2s (strips (evs t xs))∧opsA P b r K (zG d t (valL h .b2s (strips (evs t xs)))) h):=by simp only [opsA,stepO,stepA,R.kd,qP]
theorem qzS {d j:Nat} {u:Bool}:opsA P b (⟨some d,some (j,u),.b2s,xs⟩::r) K t h=(qI (qS j t)=true∧(qv (qS j t) u=true→flags (evs t xs)∧okL h .b2s (strips (evs t xs)))∧opsA P b r K (zG d t (.gd (qv (qS j t) u) (valL h .b2s (strips (evs t xs))))) h):=by simp only [opsA,stepO,zZ,R.kd,qP]
theorem qBw {d:Option Nat}:opsA P b (⟨d,none,.s2b,xs⟩::r) K t h=(flags (evs t xs)∧effE b h .s2b (strips (evs t xs)) t d (opsA P b r K)):=by simp only [opsA,stepO,stepA,R.kd]
theorem qAu {nx:List AV→List AObj→Prop} {d:Option Nat} {s:List UInt8}:effE b h .s2b [.str s] t d nx=((s.length:Int)≤140737488355328∧nx (qP t d (.sl s.length fun i=> [.int .u8 ((s.getD i 0).toNat:Int)])) h):=(rfl)
end
theorem w_s2bo {P:Program} {b:Nat} {r:List RO} {K:Nx} {t:List AV} {h:List AObj} {xs:List X} {d:Option Nat} {j:Nat} {ty:TypeId}:opsA P b (⟨d,none,.s2bo j ty,xs⟩::r) K t h=(flags (evs t xs)∧effE b h (.s2bo j ty) (strips (evs t xs)) t d (opsA P b r K)):=by simp only [opsA,stepO,stepA,R.kd]
theorem qwv {b:Nat} {t:List AV} {h:List AObj} {nx:List AV→List AObj→Prop} {d:Option Nat} {s:List UInt8} {j:Nat} {ty:TypeId}:effE b h (.s2bo j ty) [.str s] t d nx=((qK h (b+j)=true∧(s.length:Int)≤140737488355328)∧nx (qP t d (.osl (b+j) (qu (qF (b+j) h)+1) 1 0 s.length)) (qJ (b+j) h (.mem (qu (qF (b+j) h)+1) (ty+qa7) (jl s)))):=(rfl)
attribute [go_sem] w_s2bo qwv
theorem qj0 (c:UInt8):qaG (.int .u8 (c.toNat:Int))=c:=by simp [qaG]
theorem qlr (c:UInt8):qdb (.int .u8 (c.toNat:Int)):=by
 have:=c.toNat_lt
 exact ⟨by omega,by omega⟩
theorem qgn {g:List AObj} {s:List UInt8}:valL g .b2s [.sl s.length fun i=> [.int .u8 ((s.getD i 0).toNat:Int)]]= .str s:=by
 show AV.str ((List.range s.length).map fun i=>qaG (.int .u8 ((s.getD i 0).toNat:Int)))=_
 congr 1
 apply List.ext_getElem
 ·simp
 ·intro i h1 h2
  simp only [List.getElem_map,List.getElem_range,qj0]
  rw [List.getD_eq_getElem?_getD,List.getElem?_eq_getElem h2];rfl
theorem qh7 {g:List AObj} {s:List UInt8}:okL g .b2s [.sl s.length fun i=> [.int .u8 ((s.getD i 0).toNat:Int)]]=True:=eq_true (fun i _=>qlr _)
theorem qgm {g:List AObj}:valL g .b2s [.nl]= .str []:=rfl
theorem qh6 {g:List AObj}:okL g .b2s [.nl]=True:=rfl
theorem qe5 {g:List AObj} {k v z p n:Nat}:valL g .b2s [.osl k v z p n]= .str (((((cellsOf g k v).getD []).drop p).take n).map qaG):=rfl
theorem qfN {g:List AObj} {k v z p n:Nat}:okL g .b2s [.osl k v z p n]=(zu g k v=true∧z=1∧p+n≤((cellsOf g k v).getD []).length∧ ∀c∈((((cellsOf g k v).getD []).drop p).take n),qdb c):=rfl
theorem qt2 {x:AV} {q:Bool}:jE (.bool false) x (.bool q)= .bool q:=by
 unfold jE
 simp only [AV.strip,qaU]
 split
 ·rename_i p' q' h1 h2
  cases h2
  simp
 ·simp
theorem qt3 {y:AV} {p:Bool}:jE (.bool true) (.bool p) y= .bool p:=by
 unfold jE
 simp only [AV.strip,qaU]
 split
 ·rename_i p' q' h1 h2
  cases h1
  simp
 ·simp
attribute [go_sem] qt2 qt3
theorem qy {P:Program} {f:Nat} {first cap args:List AV} {d:Option Nat} {nx:Nx} {t:List AV} {h:List AObj} {v:AV} (hc:ACalls P f (first++args++cap) h v h) (hn:nx (qP t d v) h):qb1 P (.fn (.func f) first cap::args) d nx t h:=⟨v,h,hc,hn⟩
attribute [go_sem] qBo qzS qBw qAu qgn qh7 qgm qh6 qe5 qfN
end AF
end
section
namespace AF
open Go
section
variable {P : Program} {b : Nat} {r : List RO} {K : Nx} {t : List AV} {h : List AObj} {xs : List X}
theorem qBr {d:Nat}:opsA P b (⟨some d,none,.cap,xs⟩::r) K t h=(flags (evs t xs)∧okL h .cap (strips (evs t xs))∧opsA P b r K (zG d t (valL h .cap (strips (evs t xs)))) h):=by simp only [opsA,stepO,stepA,R.kd,qP]
theorem qyX {d:Option Nat} {j z m:Nat} {ty:TypeId} {zs:List AV}:opsA P b (⟨d,none,.appz j z ty zs m,xs⟩::r) K t h=(flags (evs t xs)∧effE b h (.appz j z ty zs m) (strips (evs t xs)) t d (opsA P b r K)):=by simp only [opsA,stepO,stepA,R.kd]
theorem qws {nx:List AV→List AObj→Prop} {d:Option Nat} {j sz:Nat} {ty:TypeId} {z:List AV} {bytes:Nat} {n:Int}:effE b h (.appz j sz ty z bytes) [.nl,.int .i64 n] t d nx=((qK h (b+j)=true∧z.length=sz∧0<n∧n*(bytes:Int)≤140737488355328∧n≤140737488355328)∧
   nx (qP t d (.osl (b+j) (qu (qF (b+j) h)+1) sz 0 n.toNat)) (qJ (b+j) h (.mem (qu (qF (b+j) h)+1) ty (qZ z n.toNat)))):=(rfl)
end
theorem valL_capnl {g:List AObj}:valL g .cap [.nl]= .int .i64 0:=rfl
theorem qlO {g:List AObj}:okL g .cap [.nl]=True:=rfl
theorem qiV {g:List AObj} {z:Nat} {lo hi:Bool} {bs:List AV}:valL g (.slc z lo hi) (.nl::bs)= .nl:=rfl
theorem qfO {g:List AObj} {z:Nat} {k:IntKind} {c:Int}:okL g (.slc z false true) [.nl,.int k c]=(c=0):=by
 simp [okL,loB,hiB,qaw]
 omega
theorem qeI {g:List AObj} {z:Nat} {k m:IntKind} {a c:Int}:okL g (.slc z true true) [.nl,.int m a,.int k c]=(a=0∧c=0):=by
 simp [okL,loB,hiB,qaw]
 omega
theorem qfP {g:List AObj} {z:Nat} {m:IntKind} {a:Int}:okL g (.slc z true false) [.nl,.int m a]=(a=0):=by
 simp [okL,loB,hiB,qaw]
 omega
attribute [go_sem] qBr qyX qws valL_capnl qlO qiV qfO qeI qfP
end AF
end
section
namespace AF
open Go
section
variable {P : Program} {b : Nat} {K : Nx} {t : List AV} {h : List AObj}
theorem t_nil:qbC P b .nil K t h=K t h:=(rfl)
theorem t_one {o:RO} {r:DT}:qbC P b (.one o r) K t h=opsA P b [o] (qbC P b r K) t h:=(rfl)
theorem t_two {x y:DT}:qbC P b (.two x y) K t h=(qbC P b x K t h∧qbC P b y K t h):=(rfl)
theorem t_univ {r:DT} {d:Option Nat} {xs:List X}:qbC P b (.uni ⟨d,none,.callv,xs⟩ r) K t h=qra P (evs t xs) d (qbC P b r K) t h:=(rfl)
theorem t_uni {r:DT} {d:Option Nat} {f:Nat} {p:Bool} {xs:List X}:qbC P b (.uni ⟨d,none,.call f p,xs⟩ r) K t h=qov P f (evs t xs) d (qbC P b r K) t h:=(rfl)
theorem tg_uni {r:DT} {d:Option Nat} {f:Nat} {p:Bool} {xs:List X} {j:Nat} {u:Bool}:qbC P b (.uni ⟨d,some (j,u),.call f p,xs⟩ r) K t h=(qI (qS j t)=true∧qq9 P f (qv (qS j t) u) (evs t xs) d (qbC P b r K) t h):=(rfl)
theorem qsV {d:DT} {Q:Ex→Nx} (T:List AV) (H:List AObj) (h1:qbC P b d (fun t' h'=>t'=T∧h'=H) t h) (h2:Q .normal T H):q9 P b (.draw d) Q t h:=
 ⟨_,h1,fun t' h' ⟨e1,e2⟩=>by subst e1;subst e2;exact h2⟩
theorem qU {f:Nat} {vs:List AV} {d:Option Nat} {nx:Nx} {r:AV} (hc: ∀h0,ACalls P f (strips vs) h0 r h0) (hf:flags vs) (hn:nx (qP t d r) h):qov P f vs d nx t h:=⟨hf,r,hc,hn⟩
end
attribute [go_sem] t_univ t_nil t_one t_two t_uni tg_uni
end AF
end
section
namespace AF
open Go
section
variable {P : Program} {b : Nat} {r : List RO} {K : Nx} {t : List AV} {h l : List AObj} {xs : List X} {ks : AK} {ok : Bool} {z : AV} {d : Option Nat} {nx : List AV → List AObj → Prop}
theorem w_mlk {d:Nat}:opsA P b (⟨some d,none,.mlk ks ok z,xs⟩::r) K t h=(flags (evs t xs)∧okL h (.mlk ks ok z) (strips (evs t xs))∧opsA P b r K (zG d t (valL h (.mlk ks ok z) (strips (evs t xs)))) h):=by simp only [opsA,stepO,stepA,R.kd,qP]
theorem wg_mlk {d j:Nat} {u:Bool}:opsA P b (⟨some d,some (j,u),.mlk ks ok z,xs⟩::r) K t h=(qI (qS j t)=true∧(qv (qS j t) u=true→flags (evs t xs)∧okL h (.mlk ks ok z) (strips (evs t xs)))∧opsA P b r K (zG d t (.gd (qv (qS j t) u) (valL h (.mlk ks ok z) (strips (evs t xs))))) h):=by simp only [opsA,stepO,zZ,R.kd,qP]
theorem w_mkmap {j:Nat}:opsA P b (⟨d,none,.mkmap j,xs⟩::r) K t h=(flags (evs t xs)∧effE b h (.mkmap j) (strips (evs t xs)) t d (opsA P b r K)):=by simp only [opsA,stepO,stepA,R.kd]
theorem w_mupd:opsA P b (⟨d,none,.mupd ks,xs⟩::r) K t h=(flags (evs t xs)∧effE b h (.mupd ks) (strips (evs t xs)) t d (opsA P b r K)):=by simp only [opsA,stepO,stepA,R.kd]
theorem w_ment:opsA P b (⟨d,none,.ment ks z,xs⟩::r) K t h=(flags (evs t xs)∧effE b h (.ment ks z) (strips (evs t xs)) t d (opsA P b r K)):=by simp only [opsA,stepO,stepA,R.kd]
theorem w_msto:opsA P b (⟨d,none,.msto,xs⟩::r) K t h=(flags (evs t xs)∧effE b h .msto (strips (evs t xs)) t d (opsA P b r K)):=by simp only [opsA,stepO,stepA,R.kd]
theorem w_clr {sz:Nat} {zs:List AV}:opsA P b (⟨d,none,.clr sz zs,xs⟩::r) K t h=(flags (evs t xs)∧effE b h (.clr sz zs) (strips (evs t xs)) t d (opsA P b r K)):=by simp only [opsA,stepO,stepA,R.kd]
theorem e_ment {k ver:Nat} {x:AV}:effE b h (.ment ks z) [.mp k ver,x] t d nx=(((zx h k ver).isSome=true∧okK ks x∧(qba ks x ((zx h k ver).getD []) 0).isSome=true)∧
  nx (qP t d (.tup [(qeF ks x z ((zx h k ver).getD [])).1,.int .i64 (qgS ks x ((zx h k ver).getD []))])) (qJ k h (.map ver (qrK ks x (qeF ks x z ((zx h k ver).getD [])).1 ((zx h k ver).getD []))))):=(rfl)
theorem e_msto {k ver:Nat} {n:Int} {v:AV}:effE b h .msto [.mp k ver,.int .i64 n,v] t d nx=(((zx h k ver).isSome=true∧0≤n∧n.toNat<((zx h k ver).getD []).length)∧
  nx (qP t d (.tup [])) (qJ k h (.map ver (qlH n.toNat v ((zx h k ver).getD []))))):=(rfl)
theorem e_clr {sz sz' k ver off m:Nat} {zs:List AV}:effE b h (.clr sz zs) [.osl k ver sz' off m] t d nx=((zu h k ver=true∧(cellsOf h k ver).isSome=true∧zs.length=sz∧sz'=sz∧off+m*sz≤((cellsOf h k ver).getD []).length)∧
  nx (qP t d (.tup [])) (qJ k h (.mem ver (qqH (qF k h)) (((cellsOf h k ver).getD []).take off++qZ zs m++((cellsOf h k ver).getD []).drop (off+m*sz))))):=(rfl)
theorem e_mkmap {j:Nat}:effE b h (.mkmap j) [] t d nx=(qK h (b+j)=true∧nx (qP t d (.mp (b+j) (qu (qF (b+j) h)+1))) (qJ (b+j) h (.map (qu (qF (b+j) h)+1) []))):=(rfl)
theorem e_mupd {k ver:Nat} {x v:AV}:effE b h (.mupd ks) [.mp k ver,x,v] t d nx=(((zx h k ver).isSome=true∧okK ks x∧(qba ks x ((zx h k ver).getD []) 0).isSome=true)∧
  nx (qP t d (.tup [])) (qJ k h (.map ver (qrK ks x v ((zx h k ver).getD []))))):=(rfl)
end
section
variable {h l : List AObj} {ks : AK} {ok : Bool} {z x : AV} {k ver n v w : Nat} {es : List (AV × AV)} {o : AObj}
theorem valL_mlk_t:valL h (.mlk ks true z) [.mp k ver,x]= .tup [(qeF ks x z ((zx h k ver).getD [])).1,.bool (qeF ks x z ((zx h k ver).getD [])).2]:=rfl
theorem valL_mlk_f:valL h (.mlk ks false z) [.mp k ver,x]=(qeF ks x z ((zx h k ver).getD [])).1:=rfl
theorem okL_mlk:okL h (.mlk ks ok z) [.mp k ver,x]=((zx h k ver).isSome=true∧okK ks x∧(qba ks x ((zx h k ver).getD []) 0).isSome=true):=rfl
theorem mapOf_app:zx (h++l) (h.length+n) v=zx l n v:=by unfold zx;rw [getO_app];rfl
theorem mapOf_app0:zx (h++l) h.length v=zx l 0 v:=by unfold zx;rw [getO_app0];rfl
theorem mapOf_0:zx (.map w es::l) 0 v=if w=v then some es else none:=rfl
theorem mapOf_s:zx (o::l) (n+1) v=zx l n v:=rfl
theorem site_0_map:qK (.map v es::l) 0=true:=rfl
theorem verOf_map:qu (some (.map v es))=v:=rfl
theorem strip_mp:(AV.mp k v).strip=AV.mp k v:=rfl
theorem flag_mp:(AV.mp k v).flag=true:=rfl
theorem solid_mp:(AV.mp k v).solid=true:=rfl
theorem cells_mp:(AV.mp k v).cells= [AV.mp k v]:=rfl
theorem okK_str {s:List UInt8}:okK .str (.str s)=True:=rfl
theorem okK_int {q:IntKind} {i:Int}:okK .int (.int q i)=True:=rfl
theorem okK_bool {q:Bool}:okK .bool (.bool q)=True:=rfl
theorem frz_mp {fz:Nat→Bool}:frz fz h (n+1) (.mp k v)=if fz k then .undef else .mp k v:=rfl
end
attribute [go_sem] w_ment w_msto w_clr e_ment e_msto e_clr w_mlk wg_mlk w_mkmap w_mupd e_mkmap e_mupd valL_mlk_t valL_mlk_f okL_mlk mapOf_app mapOf_app0 mapOf_0 mapOf_s site_0_map verOf_map strip_mp flag_mp solid_mp cells_mp okK_str okK_int okK_bool frz_mp
section
variable {P : Program} {b : Nat} {r : List RO} {K : Nx} {t : List AV} {h : List AObj} {xs : List X} {d : Nat}
theorem qy5 {z:Nat}:opsA P b (⟨some d,none,.idxI z,xs⟩::r) K t h=(flags (evs t xs)∧okP (.idxI z) (strips (evs t xs))∧opsA P b r K (zG d t (valP (.idxI z) (strips (evs t xs)))) h):=by simp only [opsA,stepO,stepA,R.kd,qP]
theorem qy3 {z:Nat}:opsA P b (⟨some d,none,.fldI z,xs⟩::r) K t h=(flags (evs t xs)∧okP (.fldI z) (strips (evs t xs))∧opsA P b r K (zG d t (valP (.fldI z) (strips (evs t xs)))) h):=by simp only [opsA,stepO,stepA,R.kd,qP]
theorem quH {z:Option Nat}:opsA P b (⟨some d,none,.loadI z,xs⟩::r) K t h=(flags (evs t xs)∧okP (.loadI z) (strips (evs t xs))∧opsA P b r K (zG d t (valP (.loadI z) (strips (evs t xs)))) h):=by simp only [opsA,stepO,stepA,R.kd,qP]
end
theorem valP_idxI {z n:Nat} {f:Nat→List AV} {k:IntKind} {i:Int}:valP (.idxI z) [.sl n f,.int k i]= .ip (f i.toNat):=rfl
theorem qpN {z n:Nat} {f:Nat→List AV} {k:IntKind} {i:Int}:okP (.idxI z) [.sl n f,.int k i]=((0≤i∧i<n)∧(f i.toNat).length=z):=rfl
theorem qnD {z:Nat} {cs:List AV}:valP (.fldI z) [.ip cs]= .ip (cs.drop z):=rfl
theorem qpM {z:Nat} {cs:List AV}:okP (.fldI z) [.ip cs]=(z<cs.length):=rfl
theorem qiY {z:Option Nat} {cs:List AV}:valP (.loadI z) [.ip cs]=cut cs 0 z:=rfl
theorem qlX {z:Option Nat} {cs:List AV}:okP (.loadI z) [.ip cs]=ji cs 0 z:=rfl
attribute [go_sem] qy5 qy3 quH valP_idxI qpN qnD qpM qiY qlX
end AF
end
theorem gdqA {α:Type _} {l:List α} {i:Nat} {a:α}:l.getD i a=l[i]?.getD a:=List.getD_eq_getElem?_getD
theorem zU {α:Type _} {l:List α} {i:Nat} (h:i<l.length):l[i]? =some l[i]:=List.getElem?_eq_getElem h
