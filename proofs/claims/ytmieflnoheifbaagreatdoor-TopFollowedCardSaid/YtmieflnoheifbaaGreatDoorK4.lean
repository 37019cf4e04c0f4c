import Derived.Test.YtmieflnoheifbaaGreatDoorK2
import Derived.Test.YtmieflnoheifbaaGreatDoorK3
import Derived.Below
import Derived.ChangeSame
import Derived.ChangeShapes
import Derived.CallsIn
import Derived.Carry
import Derived.RowKit
import Derived.WalkKit
import Derived.ProofKit
set_option linter.all false
section
namespace AF
open Go
set_option maxRecDepth 4000
def TR(k:IntKind)(a c:Int):Int:=k.wrap (a*2^(min c.toNat k.bits))
def Du(k:IntKind)(a c:Int):Int:=a.fdiv (2^(min c.toNat k.bits))
def ZE(k:IntKind)(a c:Int):Int:=k.wrap (BitVec.ofInt k.bits a&&&BitVec.ofInt k.bits c).toNat
def orK(k:IntKind)(a c:Int):Int:=k.wrap (BitVec.ofInt k.bits a|||BitVec.ofInt k.bits c).toNat
def Us(k:IntKind)(a c:Int):Int:=k.wrap (BitVec.ofInt k.bits a^^^BitVec.ofInt k.bits c).toNat
def XZ(k:IntKind)(a c:Int):Int:=k.wrap (BitVec.ofInt k.bits a&&& ~~~ BitVec.ofInt k.bits c).toNat
theorem Ib{a0:AV}{r:JT}:zG 0 (a0::r)=a0:=rfl
theorem I6{a0 v:AV}{r:JT}:jj 0 (a0::r) v=v::r:=rfl
theorem Ic{a0 a1:AV}{r:JT}:zG 1 (a0::a1::r)=a1:=rfl
theorem I7{a0 a1 v:AV}{r:JT}:jj 1 (a0::a1::r) v=a0::v::r:=rfl
theorem Ie{a0 a1 a2:AV}{r:JT}:zG 2 (a0::a1::a2::r)=a2:=rfl
theorem I8{a0 a1 a2 v:AV}{r:JT}:jj 2 (a0::a1::a2::r) v=a0::a1::v::r:=rfl
theorem If{a0 a1 a2 a3:AV}{r:JT}:zG 3 (a0::a1::a2::a3::r)=a3:=rfl
theorem I9{a0 a1 a2 a3 v:AV}{r:JT}:jj 3 (a0::a1::a2::a3::r) v=a0::a1::a2::v::r:=rfl
theorem Ig{a0 a1 a2 a3 a4:AV}{r:JT}:zG 4 (a0::a1::a2::a3::a4::r)=a4:=rfl
theorem La{a0 a1 a2 a3 a4 v:AV}{r:JT}:jj 4 (a0::a1::a2::a3::a4::r) v=a0::a1::a2::a3::v::r:=rfl
theorem Ih{a0 a1 a2 a3 a4 a5:AV}{r:JT}:zG 5 (a0::a1::a2::a3::a4::a5::r)=a5:=rfl
theorem Lc{a0 a1 a2 a3 a4 a5 v:AV}{r:JT}:jj 5 (a0::a1::a2::a3::a4::a5::r) v=a0::a1::a2::a3::a4::v::r:=rfl
theorem Ii{a0 a1 a2 a3 a4 a5 a6:AV}{r:JT}:zG 6 (a0::a1::a2::a3::a4::a5::a6::r)=a6:=rfl
theorem Ld{a0 a1 a2 a3 a4 a5 a6 v:AV}{r:JT}:jj 6 (a0::a1::a2::a3::a4::a5::a6::r) v=a0::a1::a2::a3::a4::a5::v::r:=rfl
theorem Ij{a0 a1 a2 a3 a4 a5 a6 a7:AV}{r:JT}:zG 7 (a0::a1::a2::a3::a4::a5::a6::a7::r)=a7:=rfl
theorem Le{a0 a1 a2 a3 a4 a5 a6 a7 v:AV}{r:JT}:jj 7 (a0::a1::a2::a3::a4::a5::a6::a7::r) v=a0::a1::a2::a3::a4::a5::a6::v::r:=rfl
theorem Aj{n:Nat}{a0 a1 a2 a3 a4 a5 a6 a7:AV}{r:JT}:zG (n+8) (a0::a1::a2::a3::a4::a5::a6::a7::r)=zG n r:=rfl
theorem BS{n:Nat}{a0 a1 a2 a3 a4 a5 a6 a7 v:AV}{r:JT}:jj (n+8) (a0::a1::a2::a3::a4::a5::a6::a7::r) v=a0::a1::a2::a3::a4::a5::a6::a7::jj n r v:=rfl
theorem Kt{n:Nat}{a0 a1 a2 a3 a4 a5 a6 a7 a8 a9 a10 a11 a12 a13 a14 a15 a16 a17 a18 a19 a20 a21 a22 a23 a24 a25 a26 a27 a28 a29 a30 a31:AV}{r:JT}:zG (n+32) (a0::a1::a2::a3::a4::a5::a6::a7::a8::a9::a10::a11::a12::a13::a14::a15::a16::a17::a18::a19::a20::a21::a22::a23::a24::a25::a26::a27::a28::a29::a30::a31::r)=zG n r:=rfl
theorem VU{n:Nat}{a0 a1 a2 a3 a4 a5 a6 a7 a8 a9 a10 a11 a12 a13 a14 a15 a16 a17 a18 a19 a20 a21 a22 a23 a24 a25 a26 a27 a28 a29 a30 a31 v:AV}{r:JT}:jj (n+32) (a0::a1::a2::a3::a4::a5::a6::a7::a8::a9::a10::a11::a12::a13::a14::a15::a16::a17::a18::a19::a20::a21::a22::a23::a24::a25::a26::a27::a28::a29::a30::a31::r) v=a0::a1::a2::a3::a4::a5::a6::a7::a8::a9::a10::a11::a12::a13::a14::a15::a16::a17::a18::a19::a20::a21::a22::a23::a24::a25::a26::a27::a28::a29::a30::a31::jj n r v:=rfl
theorem SQ{t:JT}{n:Nat}:ev t (.t n)=zG n t:=rfl
theorem SO{t:JT}{v:AV}:ev t (.c v)=v:=rfl
theorem oh{b:Bool}:(AV.bool b).strip=(AV.bool b):=rfl
theorem sP{b:Bool}:(AV.bool b).flag=true:=rfl
theorem nU{b:Bool}:(AV.bool b).solid=true:=rfl
theorem mI{b:Bool}:(AV.bool b).cells= [(AV.bool b)]:=rfl
theorem QS{k:IntKind}{n:Int}:(AV.int k n).strip=(AV.int k n):=rfl
theorem JM{k:IntKind}{n:Int}:(AV.int k n).flag=true:=rfl
theorem Qz{k:IntKind}{n:Int}:(AV.int k n).solid=true:=rfl
theorem rU{k:IntKind}{n:Int}:(AV.int k n).cells= [(AV.int k n)]:=rfl
theorem QX{s:List UInt8}:(AV.str s).strip=(AV.str s):=rfl
theorem JR{s:List UInt8}:(AV.str s).flag=true:=rfl
theorem QD{s:List UInt8}:(AV.str s).solid=true:=rfl
theorem rY{s:List UInt8}:(AV.str s).cells= [(AV.str s)]:=rfl
theorem Wl{n:Nat}{f:Nat->JT}:(AV.sl n f).strip=(AV.sl n f):=rfl
theorem Y7{n:Nat}{f:Nat->JT}:(AV.sl n f).flag=true:=rfl
theorem V5{n:Nat}{f:Nat->JT}:(AV.sl n f).solid=true:=rfl
theorem Jo{n:Nat}{f:Nat->JT}:(AV.sl n f).cells= [(AV.sl n f)]:=rfl
theorem QV{k v s p l:Nat}:(AV.osl k v s p l).strip=(AV.osl k v s p l):=rfl
theorem JP{k v s p l:Nat}:(AV.osl k v s p l).flag=true:=rfl
theorem QB{k v s p l:Nat}:(AV.osl k v s p l).solid=true:=rfl
theorem rW{k v s p l:Nat}:(AV.osl k v s p l).cells= [(AV.osl k v s p l)]:=rfl
theorem QQ{c:JT}:(AV.agg c).strip=(AV.agg c):=rfl
theorem JK{c:JT}:(AV.agg c).flag=true:=rfl
theorem Qx{c:JT}:(AV.agg c).solid=true:=rfl
theorem QY{c:JT}:(AV.tup c).strip=(AV.tup c):=rfl
theorem JS{c:JT}:(AV.tup c).flag=true:=rfl
theorem rZ{c:JT}:(AV.tup c).cells= [(AV.tup c)]:=rfl
theorem Wh{c:JT}:(AV.ip c).strip=(AV.ip c):=rfl
theorem Y4{c:JT}:(AV.ip c).flag=true:=rfl
theorem V2{c:JT}:(AV.ip c).solid=true:=rfl
theorem Jl{c:JT}:(AV.ip c).cells= [(AV.ip c)]:=rfl
theorem Wj{k v p:Nat}:(AV.op k v p).strip=(AV.op k v p):=rfl
theorem Y6{k v p:Nat}:(AV.op k v p).flag=true:=rfl
theorem V4{k v p:Nat}:(AV.op k v p).solid=true:=rfl
theorem Jn{k v p:Nat}:(AV.op k v p).cells= [(AV.op k v p)]:=rfl
theorem ot  :AV.nilp.strip=AV.nilp:=rfl
theorem sT  :AV.nilp.flag=true:=rfl
theorem nX  :AV.nilp.solid=true:=rfl
theorem mL  :AV.nilp.cells= [AV.nilp]:=rfl
theorem Wi  :AV.nl.strip=AV.nl:=rfl
theorem Y5  :AV.nl.flag=true:=rfl
theorem V3  :AV.nl.solid=true:=rfl
theorem Jm  :AV.nl.cells= [AV.nl]:=rfl
theorem We{f:Fn}{a c:JT}:(AV.fn f a c).strip=(AV.fn f a c):=rfl
theorem Y2{f:Fn}{a c:JT}:(AV.fn f a c).flag=true:=rfl
theorem V1{f:Fn}{a c:JT}:(AV.fn f a c).solid=true:=rfl
theorem Jj{f:Fn}{a c:JT}:(AV.fn f a c).cells= [(AV.fn f a c)]:=rfl
theorem QZ{k:Nat}:(AV.yld k).strip=(AV.yld k):=rfl
theorem JU{k:Nat}:(AV.yld k).flag=true:=rfl
theorem QE{k:Nat}:(AV.yld k).solid=true:=rfl
theorem sa{k:Nat}:(AV.yld k).cells= [(AV.yld k)]:=rfl
theorem iw  :AV.nilfn.strip=AV.nilfn:=rfl
theorem mZ  :AV.nilfn.flag=true:=rfl
theorem ic  :AV.nilfn.solid=true:=rfl
theorem gf  :AV.nilfn.cells= [AV.nilfn]:=rfl
theorem QR  :AV.ifc.strip=AV.ifc:=rfl
theorem JL  :AV.ifc.flag=true:=rfl
theorem Qy  :AV.ifc.solid=true:=rfl
theorem rT  :AV.ifc.cells= [AV.ifc]:=rfl
theorem ix  :AV.nilif.strip=AV.nilif:=rfl
theorem nc  :AV.nilif.flag=true:=rfl
theorem ig  :AV.nilif.solid=true:=rfl
theorem gh  :AV.nilif.cells= [AV.nilif]:=rfl
theorem iC:AV.undef.strip=AV.undef:=rfl
theorem nh:AV.undef.flag=true:=rfl
theorem rS{c:JT}:(AV.agg c).cells=c:=rfl
theorem Wg{g:Bool}{v:AV}:(AV.gd g v).strip=v:=rfl
theorem Y3{g:Bool}{v:AV}:(AV.gd g v).flag=g:=rfl
theorem Ue{P:Program}{b:Nat}{r:List RO}{K:Nx}{t:JT}{h:JN}{d:Nat} {x:X}:opsA P b (⟨some d,none,.mv,[x]⟩::r) K t h=((ev t x).flag=true∧opsA P b r K (jj d t ((ev t x).strip)) h):=by simp only[opsA,stepO,stepA,R.kd,evs,flags,strips,qS,okP,okL,valP,valL,and_true,true_and,and_assoc]
theorem P4{P:Program}{b:Nat}{r:List RO}{K:Nx}{t:JT}{h:JN}{d:Nat} {x:X}{j:Nat}{u:Bool}:opsA P b (⟨some d,some (j,u),.mv,[x]⟩::r) K t h=(zx (zG j t)=true∧(qO (zG j t) u=true->(ev t x).flag=true)∧opsA P b r K (jj d t (.gd (qO (zG j t) u) ((ev t x).strip))) h):=by simp only[opsA,stepO,kf,R.kd,evs,flags,strips,qS,okP,okL,valP,valL,and_true,true_and,and_assoc]
theorem PO{P:Program}{b:Nat}{r:List RO}{K:Nx}{t:JT}{h:JN}{d:Nat}{q:BinOp}{x y:X}:opsA P b (⟨some d,none,.bin q,[x,y]⟩::r) K t h=((ev t x).flag=true∧(ev t y).flag=true∧vN q (ev t x).strip (ev t y).strip∧opsA P b r K (jj d t (vH q (ev t x).strip (ev t y).strip)) h):=by simp only[opsA,stepO,stepA,R.kd,evs,flags,strips,qS,okP,okL,valP,valL,and_true,true_and,and_assoc]
theorem MY{P:Program}{b:Nat}{r:List RO}{K:Nx}{t:JT}{h:JN}{d:Nat}{q:BinOp}{x y:X}{j:Nat}{u:Bool}:opsA P b (⟨some d,some (j,u),.bin q,[x,y]⟩::r) K t h=(zx (zG j t)=true∧(qO (zG j t) u=true->(ev t x).flag=true∧(ev t y).flag=true∧vN q (ev t x).strip (ev t y).strip)∧opsA P b r K (jj d t (.gd (qO (zG j t) u) (vH q (ev t x).strip (ev t y).strip))) h):=by simp only[opsA,stepO,kf,R.kd,evs,flags,strips,qS,okP,okL,valP,valL,and_true,true_and,and_assoc]
theorem Uf{P:Program}{b:Nat}{r:List RO}{K:Nx}{t:JT}{h:JN}{d:Nat}{q:UnOp}{xs:List X}:opsA P b (⟨some d,none,.un q,xs⟩::r) K t h=(flags (evs t xs)∧okP (.un q) (strips (evs t xs))∧opsA P b r K (jj d t (valP (.un q) (strips (evs t xs)))) h):=by simp only[opsA,stepO,stepA,R.kd,qS]
theorem P5{P:Program}{b:Nat}{r:List RO}{K:Nx}{t:JT}{h:JN}{d:Nat}{q:UnOp}{xs:List X}{j:Nat}{u:Bool}:opsA P b (⟨some d,some (j,u),.un q,xs⟩::r) K t h=(zx (zG j t)=true∧(qO (zG j t) u=true->flags (evs t xs)∧okP (.un q) (strips (evs t xs)))∧opsA P b r K (jj d t (.gd (qO (zG j t) u) (valP (.un q) (strips (evs t xs))))) h):=by simp only[opsA,stepO,kf,R.kd,qS]
theorem LU{P:Program}{b:Nat}{r:List RO}{K:Nx}{t:JT}{h:JN}{d:Nat}{k:IntKind}{xs:List X}:opsA P b (⟨some d,none,.conv k,xs⟩::r) K t h=(flags (evs t xs)∧okP (.conv k) (strips (evs t xs))∧opsA P b r K (jj d t (valP (.conv k) (strips (evs t xs)))) h):=by simp only[opsA,stepO,stepA,R.kd,qS]
theorem CU{P:Program}{b:Nat}{r:List RO}{K:Nx}{t:JT}{h:JN}{d:Nat}{k:NK}{n:Bool}{xs:List X}:opsA P b (⟨some d,none,.isnil k n,xs⟩::r) K t h=(flags (evs t xs)∧okP (.isnil k n) (strips (evs t xs))∧opsA P b r K (jj d t (valP (.isnil k n) (strips (evs t xs)))) h):=by simp only[opsA,stepO,stepA,R.kd,qS]
theorem PQ{P:Program}{b:Nat}{r:List RO}{K:Nx}{t:JT}{h:JN}{d:Nat}{i:Nat}{xs:List X}:opsA P b (⟨some d,none,.ext i,xs⟩::r) K t h=(flags (evs t xs)∧okP (.ext i) (strips (evs t xs))∧opsA P b r K (jj d t (valP (.ext i) (strips (evs t xs)))) h):=by simp only[opsA,stepO,stepA,R.kd,qS]
theorem CP{P:Program}{b:Nat}{r:List RO}{K:Nx}{t:JT}{h:JN}{d:Nat}{z:JT}{ps:List (Nat×Nat)}{xs:List X}:opsA P b (⟨some d,none,.build z ps,xs⟩::r) K t h=(flags (evs t xs)∧okP (.build z ps) (strips (evs t xs))∧opsA P b r K (jj d t (valP (.build z ps) (strips (evs t xs)))) h):=by simp only[opsA,stepO,stepA,R.kd,qS]
theorem WI{P:Program}{b:Nat}{r:List RO}{K:Nx}{t:JT}{h:JN}{d:Nat}{z:JT}{ps:List (Nat×Nat)}{xs:List X}{j:Nat}{u:Bool}:opsA P b (⟨some d,some (j,u),.build z ps,xs⟩::r) K t h=(zx (zG j t)=true∧(qO (zG j t) u=true->flags (evs t xs)∧okP (.build z ps) (strips (evs t xs)))∧opsA P b r K (jj d t (.gd (qO (zG j t) u) (valP (.build z ps) (strips (evs t xs))))) h):=by simp only[opsA,stepO,kf,R.kd,qS]
theorem L2{P:Program}{b:Nat}{r:List RO}{K:Nx}{t:JT}{h:JN}{d:Nat}{f:Fn}{n:Nat}{xs:List X}:opsA P b (⟨some d,none,.mkfn f n,xs⟩::r) K t h=(flags (evs t xs)∧okP (.mkfn f n) (strips (evs t xs))∧opsA P b r K (jj d t (valP (.mkfn f n) (strips (evs t xs)))) h):=by simp only[opsA,stepO,stepA,R.kd,qS]
theorem C5{P:Program}{b:Nat}{r:List RO}{K:Nx}{t:JT}{h:JN}{d:Nat}{f:Fn}{n:Nat}{xs:List X}{j:Nat}{u:Bool}:opsA P b (⟨some d,some (j,u),.mkfn f n,xs⟩::r) K t h=(zx (zG j t)=true∧(qO (zG j t) u=true->flags (evs t xs)∧okP (.mkfn f n) (strips (evs t xs)))∧opsA P b r K (jj d t (.gd (qO (zG j t) u) (valP (.mkfn f n) (strips (evs t xs))))) h):=by simp only[opsA,stepO,kf,R.kd,qS]
theorem Mc{P:Program}{b:Nat}{r:List RO}{K:Nx}{t:JT}{h:JN}{d:Nat} {xs:List X}:opsA P b (⟨some d,none,.slen,xs⟩::r) K t h=(flags (evs t xs)∧okP (.slen) (strips (evs t xs))∧opsA P b r K (jj d t (valP (.slen) (strips (evs t xs)))) h):=by simp only[opsA,stepO,stepA,R.kd,qS]
theorem C9{P:Program}{b:Nat}{r:List RO}{K:Nx}{t:JT}{h:JN}{d:Nat} {xs:List X}{j:Nat}{u:Bool}:opsA P b (⟨some d,some (j,u),.slen,xs⟩::r) K t h=(zx (zG j t)=true∧(qO (zG j t) u=true->flags (evs t xs)∧okP (.slen) (strips (evs t xs)))∧opsA P b r K (jj d t (.gd (qO (zG j t) u) (valP (.slen) (strips (evs t xs))))) h):=by simp only[opsA,stepO,kf,R.kd,qS]
theorem L9{P:Program}{b:Nat}{r:List RO}{K:Nx}{t:JT}{h:JN}{d:Nat} {xs:List X}:opsA P b (⟨some d,none,.sidx,xs⟩::r) K t h=(flags (evs t xs)∧okP (.sidx) (strips (evs t xs))∧opsA P b r K (jj d t (valP (.sidx) (strips (evs t xs)))) h):=by simp only[opsA,stepO,stepA,R.kd,qS]
theorem LO{P:Program}{b:Nat}{r:List RO}{K:Nx}{t:JT}{h:JN}{d n1 n2:Nat}{n3:Option Nat} {xs:List X}:opsA P b (⟨some d,none,(.aidx n1 n2 n3),xs⟩::r) K t h=(flags (evs t xs)∧okP (.aidx n1 n2 n3) (strips (evs t xs))∧opsA P b r K (jj d t (valP (.aidx n1 n2 n3) (strips (evs t xs)))) h):=by simp only[opsA,stepO,stepA,R.kd,qS]
theorem C7{P:Program}{b:Nat}{r:List RO}{K:Nx}{t:JT}{h:JN}{d:Nat} {xs:List X}{j:Nat}{u:Bool}:opsA P b (⟨some d,some (j,u),.sidx,xs⟩::r) K t h=(zx (zG j t)=true∧(qO (zG j t) u=true->flags (evs t xs)∧okP (.sidx) (strips (evs t xs)))∧opsA P b r K (jj d t (.gd (qO (zG j t) u) (valP (.sidx) (strips (evs t xs))))) h):=by simp only[opsA,stepO,kf,R.kd,qS]
theorem Md{P:Program}{b:Nat}{r:List RO}{K:Nx}{t:JT}{h:JN}{d:Nat}{lo hi:Bool}{xs:List X}:opsA P b (⟨some d,none,.sslc lo hi,xs⟩::r) K t h=(flags (evs t xs)∧okP (.sslc lo hi) (strips (evs t xs))∧opsA P b r K (jj d t (valP (.sslc lo hi) (strips (evs t xs)))) h):=by simp only[opsA,stepO,stepA,R.kd,qS]
theorem Da{P:Program}{b:Nat}{r:List RO}{K:Nx}{t:JT}{h:JN}{d:Nat}{lo hi:Bool}{xs:List X}{j:Nat}{u:Bool}:opsA P b (⟨some d,some (j,u),.sslc lo hi,xs⟩::r) K t h=(zx (zG j t)=true∧(qO (zG j t) u=true->flags (evs t xs)∧okP (.sslc lo hi) (strips (evs t xs)))∧opsA P b r K (jj d t (.gd (qO (zG j t) u) (valP (.sslc lo hi) (strips (evs t xs))))) h):=by simp only[opsA,stepO,kf,R.kd,qS]
theorem PR{P:Program}{b:Nat}{r:List RO}{K:Nx}{t:JT}{h:JN}{d:Nat} {xs:List X}:opsA P b (⟨some d,none,.len,xs⟩::r) K t h=(flags (evs t xs)∧okL h (.len) (strips (evs t xs))∧opsA P b r K (jj d t (valL h (.len) (strips (evs t xs)))) h):=by simp only[opsA,stepO,stepA,R.kd,qS]
theorem MZ{P:Program}{b:Nat}{r:List RO}{K:Nx}{t:JT}{h:JN}{d:Nat} {xs:List X}{j:Nat}{u:Bool}:opsA P b (⟨some d,some (j,u),.len,xs⟩::r) K t h=(zx (zG j t)=true∧(qO (zG j t) u=true->flags (evs t xs)∧okL h (.len) (strips (evs t xs)))∧opsA P b r K (jj d t (.gd (qO (zG j t) u) (valL h (.len) (strips (evs t xs))))) h):=by simp only[opsA,stepO,kf,R.kd,qS]
theorem LX{P:Program}{b:Nat}{r:List RO}{K:Nx}{t:JT}{h:JN}{d:Nat}{z:Nat}{xs:List X}:opsA P b (⟨some d,none,.idxA z,xs⟩::r) K t h=(flags (evs t xs)∧okL h (.idxA z) (strips (evs t xs))∧opsA P b r K (jj d t (valL h (.idxA z) (strips (evs t xs)))) h):=by simp only[opsA,stepO,stepA,R.kd,qS]
theorem C3{P:Program}{b:Nat}{r:List RO}{K:Nx}{t:JT}{h:JN}{d:Nat}{z:Nat}{xs:List X}{j:Nat}{u:Bool}:opsA P b (⟨some d,some (j,u),.idxA z,xs⟩::r) K t h=(zx (zG j t)=true∧(qO (zG j t) u=true->flags (evs t xs)∧okL h (.idxA z) (strips (evs t xs)))∧opsA P b r K (jj d t (.gd (qO (zG j t) u) (valL h (.idxA z) (strips (evs t xs))))) h):=by simp only[opsA,stepO,kf,R.kd,qS]
theorem LV{P:Program}{b:Nat}{r:List RO}{K:Nx}{t:JT}{h:JN}{d:Nat}{p:Nat}{xs:List X}:opsA P b (⟨some d,none,.fldA p,xs⟩::r) K t h=(flags (evs t xs)∧okL h (.fldA p) (strips (evs t xs))∧opsA P b r K (jj d t (valL h (.fldA p) (strips (evs t xs)))) h):=by simp only[opsA,stepO,stepA,R.kd,qS]
theorem C2{P:Program}{b:Nat}{r:List RO}{K:Nx}{t:JT}{h:JN}{d:Nat}{p:Nat}{xs:List X}{j:Nat}{u:Bool}:opsA P b (⟨some d,some (j,u),.fldA p,xs⟩::r) K t h=(zx (zG j t)=true∧(qO (zG j t) u=true->flags (evs t xs)∧okL h (.fldA p) (strips (evs t xs)))∧opsA P b r K (jj d t (.gd (qO (zG j t) u) (valL h (.fldA p) (strips (evs t xs))))) h):=by simp only[opsA,stepO,kf,R.kd,qS]
theorem LZ{P:Program}{b:Nat}{r:List RO}{K:Nx}{t:JT}{h:JN}{d:Nat}{n:Option Nat}{xs:List X}:opsA P b (⟨some d,none,.load n,xs⟩::r) K t h=(flags (evs t xs)∧okL h (.load n) (strips (evs t xs))∧opsA P b r K (jj d t (valL h (.load n) (strips (evs t xs)))) h):=by simp only[opsA,stepO,stepA,R.kd,qS]
theorem C4{P:Program}{b:Nat}{r:List RO}{K:Nx}{t:JT}{h:JN}{d:Nat}{n:Option Nat}{xs:List X}{j:Nat}{u:Bool}:opsA P b (⟨some d,some (j,u),.load n,xs⟩::r) K t h=(zx (zG j t)=true∧(qO (zG j t) u=true->flags (evs t xs)∧okL h (.load n) (strips (evs t xs)))∧opsA P b r K (jj d t (.gd (qO (zG j t) u) (valL h (.load n) (strips (evs t xs))))) h):=by simp only[opsA,stepO,kf,R.kd,qS]
theorem WF{P:Program}{b:Nat}{r:List RO}{K:Nx}{t:JT}{h:JN}{d:Nat} {xs:List X}:opsA P b (⟨some d,none,.nilchk,xs⟩::r) K t h=(flags (evs t xs)∧okL h (.nilchk) (strips (evs t xs))∧opsA P b r K (jj d t (valL h (.nilchk) (strips (evs t xs)))) h):=by simp only[opsA,stepO,stepA,R.kd,qS]
theorem ZC{P:Program}{b:Nat}{r:List RO}{K:Nx}{t:JT}{h:JN}{d:Nat} {xs:List X}{j:Nat}{u:Bool}:opsA P b (⟨some d,some (j,u),.nilchk,xs⟩::r) K t h=(zx (zG j t)=true∧(qO (zG j t) u=true->flags (evs t xs)∧okL h (.nilchk) (strips (evs t xs)))∧opsA P b r K (jj d t (.gd (qO (zG j t) u) (valL h (.nilchk) (strips (evs t xs))))) h):=by simp only[opsA,stepO,kf,R.kd,qS]
theorem PV{P:Program}{b:Nat}{r:List RO}{K:Nx}{t:JT}{h:JN}{d:Nat}{z:Nat}{lo hi:Bool}{xs:List X}:opsA P b (⟨some d,none,.slc z lo hi,xs⟩::r) K t h=(flags (evs t xs)∧okL h (.slc z lo hi) (strips (evs t xs))∧opsA P b r K (jj d t (valL h (.slc z lo hi) (strips (evs t xs)))) h):=by simp only[opsA,stepO,stepA,R.kd,qS]
theorem L8{P:Program}{b:Nat}{r:List RO}{K:Nx}{t:JT}{h:JN}{d:Nat}{c x y:X}:opsA P b (⟨some d,none,.pick,[c,x,y]⟩::r) K t h=(vW (ev t c) (ev t x) (ev t y)∧opsA P b r K (jj d t (j0 (ev t c) (ev t x) (ev t y))) h):=by simp only[opsA,stepO,stepA,R.kd,qS,evs]
theorem C6{P:Program}{b:Nat}{r:List RO}{K:Nx}{t:JT}{h:JN}{d:Nat}{c x y:X}{j:Nat}{u:Bool}:opsA P b (⟨some d,some (j,u),.pick,[c,x,y]⟩::r) K t h=(zx (zG j t)=true∧(qO (zG j t) u=true->vW (ev t c) (ev t x) (ev t y))∧opsA P b r K (jj d t (.gd (qO (zG j t) u) (j0 (ev t c) (ev t x) (ev t y)))) h):=by simp only[opsA,stepO,kf,R.kd,qS,evs]
theorem L6{P:Program}{b:Nat}{r:List RO}{K:Nx}{t:JT}{h:JN}{d:Option Nat}{j z:Nat}{ty:TypeId}{xs:List X}:opsA P b (⟨d,none,.nilo j z ty,xs⟩::r) K t h=(flags (evs t xs)∧effE b h (.nilo j z ty) (strips (evs t xs)) t d (opsA P b r K)):=by simp only[opsA,stepO,stepA,R.kd]
theorem CO{P:Program}{b:Nat}{r:List RO}{K:Nx}{t:JT}{h:JN}{d:Option Nat}{j:Nat}{ty:TypeId}{z:JT}{xs:List X}:opsA P b (⟨d,none,.alloc j ty z,xs⟩::r) K t h=(flags (evs t xs)∧effE b h (.alloc j ty z) (strips (evs t xs)) t d (opsA P b r K)):=by simp only[opsA,stepO,stepA,R.kd]
theorem PP{P:Program}{b:Nat}{r:List RO}{K:Nx}{t:JT}{h:JN}{d:Option Nat}{j:Nat}{ty:TypeId}{xs:List X}:opsA P b (⟨d,none,.box j ty,xs⟩::r) K t h=(flags (evs t xs)∧effE b h (.box j ty) (strips (evs t xs)) t d (opsA P b r K)):=by simp only[opsA,stepO,stepA,R.kd]
theorem CX{P:Program}{b:Nat}{r:List RO}{K:Nx}{t:JT}{h:JN}{d:Option Nat}{n:Nat}{xs:List X}:opsA P b (⟨d,none,.store n,xs⟩::r) K t h=(flags (evs t xs)∧effE b h (.store n) (strips (evs t xs)) t d (opsA P b r K)):=by simp only[opsA,stepO,stepA,R.kd]
theorem CW{P:Program}{b:Nat}{r:List RO}{K:Nx}{t:JT}{h:JN}{d:Option Nat}{j z m:Nat}{ty:TypeId}{zs:JT}{xs:List X}:opsA P b (⟨d,none,.mkslc j z ty zs m,xs⟩::r) K t h=(flags (evs t xs)∧effE b h (.mkslc j z ty zs m) (strips (evs t xs)) t d (opsA P b r K)):=by simp only[opsA,stepO,stepA,R.kd]
theorem LQ{P:Program}{b:Nat}{r:List RO}{K:Nx}{t:JT}{h:JN}{d:Option Nat}{j z n:Nat}{ty:TypeId}{zs:JT}{ps:List (Nat×Nat)}{xs:List X}:opsA P b (⟨d,none,.bslc j z n ty zs ps,xs⟩::r) K t h=(flags (evs t xs)∧effE b h (.bslc j z n ty zs ps) (strips (evs t xs)) t d (opsA P b r K)):=by simp only[opsA,stepO,stepA,R.kd]
theorem PL{P:Program}{b:Nat}{r:List RO}{K:Nx}{t:JT}{h:JN}{d:Option Nat}{j z m:Nat}{ty:TypeId}{xs:List X}:opsA P b (⟨d,none,.app j z ty m,xs⟩::r) K t h=(flags (evs t xs)∧effE b h (.app j z ty m) (strips (evs t xs)) t d (opsA P b r K)):=by simp only[opsA,stepO,stepA,R.kd]
theorem LP{P:Program}{b:Nat}{r:List RO}{K:Nx}{t:JT}{h:JN}{d:Option Nat}{j:Nat}{ty:TypeId}{xs:List X}:opsA P b (⟨d,none,.apps j ty,xs⟩::r) K t h=(flags (evs t xs)∧effE b h (.apps j ty) (strips (evs t xs)) t d (opsA P b r K)):=by simp only[opsA,stepO,stepA,R.kd]
theorem LR{P:Program}{b:Nat}{r:List RO}{K:Nx}{t:JT}{h:JN}{d:Option Nat}{f:Nat}{p:Bool}{xs:List X}:opsA P b (⟨d,none,.call f p,xs⟩::r) K t h=rG P f p (evs t xs) d (opsA P b r K) t h:=by simp only[opsA,stepO,stepA,R.kd]
theorem C0{P:Program}{b:Nat}{r:List RO}{K:Nx}{t:JT}{h:JN}{d:Option Nat}{f:Nat}{p:Bool}{xs:List X}{j:Nat}{u:Bool}:opsA P b (⟨d,some (j,u),.call f p,xs⟩::r) K t h=(zx (zG j t)=true∧rH P f p (qO (zG j t) u) (evs t xs) d (opsA P b r K) t h):=by simp only[opsA,stepO,kf,R.kd]
theorem CQ{P:Program}{b:Nat}{r:List RO}{K:Nx}{t:JT}{h:JN}{d:Option Nat}{xs:List X}:opsA P b (⟨d,none,.callv,xs⟩::r) K t h=(flags (evs t xs)∧wU P (strips (evs t xs)) d (opsA P b r K) t h):=by simp only[opsA,stepO,stepA,R.kd]
theorem PS{P:Program}{b:Nat}{K:Nx}{t:JT}{h:JN}:opsA P b [] K t h=K t h:=(rfl)
theorem YZ{t:JT}:evs t []= []:=rfl
theorem JE{t:JT}{x:X}{r:List X}:evs t (x::r)=ev t x::evs t r:=rfl
theorem oC:strips []= []:=rfl
theorem vC{x:AV}{r:JT}:strips (x::r)=x.strip::strips r:=rfl
theorem sX:flags []=True:=rfl
theorem nk{x:AV}{r:JT}:flags (x::r)=(x.flag=true∧flags r):=rfl
theorem pS{k l:IntKind}{a c:Int}:vH .add (.int k a) (.int l c)= .int k (k.wrap (a+c)):=rfl
theorem pu{k l:IntKind}{a c:Int}:vN .add (.int k a) (.int l c)=(k=l):=rfl
theorem ri{k l:IntKind}{a c:Int}:vH .sub (.int k a) (.int l c)= .int k (k.wrap (a-c)):=rfl
theorem pJ{k l:IntKind}{a c:Int}:vN .sub (.int k a) (.int l c)=(k=l):=rfl
theorem pZ{k l:IntKind}{a c:Int}:vH .mul (.int k a) (.int l c)= .int k (k.wrap (a*c)):=rfl
theorem pD{k l:IntKind}{a c:Int}:vN .mul (.int k a) (.int l c)=(k=l):=rfl
theorem rc{k l:IntKind}{a c:Int}:vH .quo (.int k a) (.int l c)= .int k (k.wrap (a.tdiv c)):=rfl
theorem pF{k l:IntKind}{a c:Int}:vN .quo (.int k a) (.int l c)=(k=l∧c≠0):=rfl
theorem re{k l:IntKind}{a c:Int}:vH .rem (.int k a) (.int l c)= .int k (a.tmod c):=rfl
theorem pG{k l:IntKind}{a c:Int}:vN .rem (.int k a) (.int l c)=(k=l∧c≠0):=rfl
theorem rf{k l:IntKind}{a c:Int}:vH .shl (.int k a) (.int l c)= .int k (TR k a c):=rfl
theorem pH{k l:IntKind}{a c:Int}:vN .shl (.int k a) (.int l c)=(0<=c):=rfl
theorem rh{k l:IntKind}{a c:Int}:vH .shr (.int k a) (.int l c)= .int k (Du k a c):=rfl
theorem pI{k l:IntKind}{a c:Int}:vN .shr (.int k a) (.int l c)=(0<=c):=rfl
theorem pU{k l:IntKind}{a c:Int}:vH .eql (.int k a) (.int l c)= .bool (decide (a=c)):=rfl
theorem py{k l:IntKind}{a c:Int}:vN .eql (.int k a) (.int l c)=(k=l):=rfl
theorem ra{k l:IntKind}{a c:Int}:vH .neq (.int k a) (.int l c)= .bool (!decide (a=c)):=rfl
theorem pE{k l:IntKind}{a c:Int}:vN .neq (.int k a) (.int l c)=(k=l):=rfl
theorem pY{k l:IntKind}{a c:Int}:vH .lss (.int k a) (.int l c)= .bool (decide (a<c)):=rfl
theorem pC{k l:IntKind}{a c:Int}:vN .lss (.int k a) (.int l c)=(k=l):=rfl
theorem pX{k l:IntKind}{a c:Int}:vH .leq (.int k a) (.int l c)= .bool (decide (a<=c)):=rfl
theorem pB{k l:IntKind}{a c:Int}:vN .leq (.int k a) (.int l c)=(k=l):=rfl
theorem pW{k l:IntKind}{a c:Int}:vH .gtr (.int k a) (.int l c)= .bool (decide (c<a)):=rfl
theorem pA{k l:IntKind}{a c:Int}:vN .gtr (.int k a) (.int l c)=(k=l):=rfl
theorem pV{k l:IntKind}{a c:Int}:vH .geq (.int k a) (.int l c)= .bool (decide (c<=a)):=rfl
theorem pz{k l:IntKind}{a c:Int}:vN .geq (.int k a) (.int l c)=(k=l):=rfl
theorem pT{k l:IntKind}{a c:Int}:vH .and (.int k a) (.int l c)= .int k (ZE k a c):=rfl
theorem px{k l:IntKind}{a c:Int}:vN .and (.int k a) (.int l c)=(k=l):=rfl
theorem Z0{k l:IntKind}{a c:Int}:vH .or (.int k a) (.int l c)= .int k (orK k a c):=rfl
theorem ZZ{k l:IntKind}{a c:Int}:vN .or (.int k a) (.int l c)=(k=l):=rfl
theorem rj{k l:IntKind}{a c:Int}:vH .xor (.int k a) (.int l c)= .int k (Us k a c):=rfl
theorem pK{k l:IntKind}{a c:Int}:vN .xor (.int k a) (.int l c)=(k=l):=rfl
theorem dG{k l:IntKind}{a c:Int}:vH .andNot (.int k a) (.int l c)= .int k (XZ k a c):=rfl
theorem dF{k l:IntKind}{a c:Int}:vN .andNot (.int k a) (.int l c)=(k=l):=rfl
theorem rk{s u:List UInt8}:vH .add (.str s) (.str u)= .str (s++u):=rfl
theorem pL{s u:List UInt8}:vN .add (.str s) (.str u)=(s.length+u.length<=9223372036854775807):=rfl
theorem rl{s u:List UInt8}:vH .eql (.str s) (.str u)= .bool (decide (s=u)):=rfl
theorem pM{s u:List UInt8}:vN .eql (.str s) (.str u)=True:=rfl
theorem rt{s u:List UInt8}:vH .neq (.str s) (.str u)= .bool (!decide (s=u)):=rfl
theorem pR{s u:List UInt8}:vN .neq (.str s) (.str u)=True:=rfl
theorem rq{s u:List UInt8}:vH .lss (.str s) (.str u)= .bool (Op.bytesLess s u):=rfl
theorem pQ{s u:List UInt8}:vN .lss (.str s) (.str u)=True:=rfl
theorem rp{s u:List UInt8}:vH .leq (.str s) (.str u)= .bool (Op.bytesLess s u||decide (s=u)):=rfl
theorem pP{s u:List UInt8}:vN .leq (.str s) (.str u)=True:=rfl
theorem rn{s u:List UInt8}:vH .gtr (.str s) (.str u)= .bool (!(Op.bytesLess s u||decide (s=u))):=rfl
theorem pO{s u:List UInt8}:vN .gtr (.str s) (.str u)=True:=rfl
theorem rm{s u:List UInt8}:vH .geq (.str s) (.str u)= .bool (!Op.bytesLess s u):=rfl
theorem pN{s u:List UInt8}:vN .geq (.str s) (.str u)=True:=rfl
theorem Zl{n p q:Bool}:valP (.bool n) [.bool p,.bool q]= .bool (n !=(p==q)):=rfl
theorem Vf{n p q:Bool}:okP (.bool n) [.bool p,.bool q]=True:=rfl
theorem WB{p:Bool}:valP (.un .not) [.bool p]= .bool (!p):=rfl
theorem A5{p:Bool}:okP (.un .not) [.bool p]=True:=rfl
theorem WA{k:IntKind}{n:Int}:valP (.un .neg) [.int k n]= .int k (k.wrap (0-n)):=rfl
theorem A4{k:IntKind}{n:Int}:okP (.un .neg) [.int k n]=True:=rfl
theorem Zm{k l:IntKind}{n:Int}:valP (.conv k) [.int l n]= .int k (k.wrap n):=rfl
theorem Vg{k l:IntKind}{n:Int}:okP (.conv k) [.int l n]=True:=rfl
theorem aJ{n:Bool}{x:AV}:valP (.isnil .ptr n) [x]= .bool (n !=(zy .ptr x).getD false):=rfl
theorem cd{n:Bool}{x:AV}:okP (.isnil .ptr n) [x]=((zy .ptr x).isSome=true):=rfl
theorem ar{n:Bool}{x:AV}:valP (.isnil .func n) [x]= .bool (n !=(zy .func x).getD false):=rfl
theorem aD{n:Bool}{x:AV}:okP (.isnil .func n) [x]=((zy .func x).isSome=true):=rfl
theorem yu{n:Bool}{x:AV}:valP (.isnil .iface n) [x]= .bool (n !=(zy .iface x).getD false):=rfl
theorem af{n:Bool}{x:AV}:okP (.isnil .iface n) [x]=((zy .iface x).isSome=true):=rfl
theorem vD{n:Bool}{m:Nat}{f:Nat->JT}:valP (.isnil .slice n) [.sl m f]=if m=0 then .anyb else .bool (n !=false):=rfl
theorem eZ{n:Bool}{m:Nat}{f:Nat->JT}:okP (.isnil .slice n) [.sl m f]=True:=rfl
theorem db{n:Bool}:valP (.isnil .slice n) [.nl]= .bool (n !=true):=rfl
theorem eY{n:Bool}:okP (.isnil .slice n) [.nl]=True:=by simp[okP,zy]
theorem mN(A B:Nx)(t:JT)(h:JN):gn .anyb A B t h=(A t h∧B t h):=rfl
theorem og:AV.strip .anyb= .anyb:=rfl
theorem sO:AV.flag .anyb=true:=rfl
theorem nT:AV.solid .anyb=true:=rfl
theorem mH:AV.cells .anyb= [.anyb]:=rfl
theorem ua:zy .ptr .nilp=some true:=rfl
theorem nB:zy .func .nilfn=some true:=rfl
theorem nC:zy .iface .nilif=some true:=rfl
theorem AU:zy .slice .nl=some true:=rfl
theorem AT{c:JT}:zy .ptr (.ip c)=some false:=rfl
theorem AS{f:Fn}{a c:JT}:zy .func (.fn f a c)=some false:=rfl
theorem KP:zy .iface .ifc=some false:=rfl
theorem Ww{ks:List AK}{n:Bool}{x y:JT}:valP (.aeq ks n) [.agg x,.agg y]= .bool (n !=(jT ks x y).getD false):=rfl
theorem A1{ks:List AK}{n:Bool}{x y:JT}:okP (.aeq ks n) [.agg x,.agg y]=((jT ks x y).isSome=true):=rfl
theorem Wz{p:Nat}{n:Option Nat}{c:JT}:valP (.fld p n) [.agg c]=cut c p n:=rfl
theorem A3{p:Nat}{n:Option Nat}{c:JT}:okP (.fld p n) [.agg c]=jK c p n:=rfl
theorem YK{p:Nat}{c:JT}:jK c p none=(p<c.length):=rfl
theorem YL{p n:Nat}{c:JT}:jK c p (some n)=(p+n<=c.length):=rfl
theorem Wx{i:Nat}{c:JT}:valP (.ext i) [.tup c]=(c[i]?).getD .undef:=rfl
theorem A2{i:Nat}{c:JT}:okP (.ext i) [.tup c]=(i<c.length):=rfl
theorem oR{z:JT}{ps:List (Nat×Nat)}{vs:JT}:valP (.build z ps) vs= .agg (vR z ps vs):=by cases vs<;>rfl
theorem uk{z:JT}{ps:List (Nat×Nat)}{vs:JT}:okP (.build z ps) vs=vE z.length ps vs:=by cases vs<;>rfl
theorem mW{n:Nat}:vE n [] []=True:=rfl
theorem gw{m p n:Nat}{ps:List (Nat×Nat)}{v:AV}{vs:JT}:vE m ((p,n)::ps) (v::vs)=(v.solid=true∧v.cells.length=n∧p+n<=m∧vE m ps vs):=rfl
theorem sK{z:JT}{ps:List (Nat×Nat)}:vR z ps []=z:=by cases ps<;>rfl
theorem mV{z:JT}{p n:Nat}{ps:List (Nat×Nat)}{v:AV}{vs:JT}:vR z ((p,n)::ps) (v::vs)=vR (z.take p++v.cells++z.drop (p+n)) ps vs:=rfl
theorem Zs{f:Fn}{n:Nat}{vs:JT}:valP (.mkfn f n) vs= .fn f (vs.take n) (vs.drop n):=by cases vs<;>rfl
theorem Vj{f:Fn}{n:Nat}{vs:JT}:okP (.mkfn f n) vs=(n<=vs.length):=by cases vs<;>rfl
theorem Zt{s:List UInt8}{k:IntKind}{i:Int}:valP .sidx [.str s,.int k i]= .int .u8 ((s[i.toNat]?).getD 0).toNat:=rfl
theorem Zk{cs:JT}{k:IntKind}{i:Int}{n1 n2:Nat}{n3:Option Nat}:valP (.aidx n1 n2 n3) [.agg cs,.int k i]=cut cs (i.toNat*n2) n3:=rfl
theorem Ve{cs:JT}{k:IntKind}{i:Int}{n1 n2:Nat}{n3:Option Nat}:okP (.aidx n1 n2 n3) [.agg cs,.int k i]=((0<=i∧i<n1)∧jK cs (i.toNat*n2) n3):=rfl
theorem Vk{s:List UInt8}{k:IntKind}{i:Int}:okP .sidx [.str s,.int k i]=(0<=i∧i<s.length):=rfl
theorem oU{s:List UInt8}{k m:IntKind}{a c:Int}:valP (.sslc true true) [.str s,.int k a,.int m c]= .str ((s.drop (a:Int).toNat).take ((c:Int).toNat-(a:Int).toNat)):=by simp[valP,loB,hiB]
theorem um{s:List UInt8}{k m:IntKind}{a c:Int}:okP (.sslc true true) [.str s,.int k a,.int m c]=(0<=(a:Int)∧(a:Int)<=c∧c<=(s.length:Int)):=by simp[okP,loB,hiB,ax]
theorem Zw{s:List UInt8}{k:IntKind}{a:Int}:valP (.sslc true false) [.str s,.int k a]= .str ((s.drop (a:Int).toNat).take (((s.length:Int):Int).toNat-(a:Int).toNat)):=by simp[valP,loB,hiB]
theorem Vn{s:List UInt8}{k:IntKind}{a:Int}:okP (.sslc true false) [.str s,.int k a]=(0<=(a:Int)∧(a:Int)<=(s.length:Int)∧(s.length:Int)<=(s.length:Int)):=by simp[okP,loB,hiB,ax]
theorem Zi{g:JN}{z w v y p n:Nat}{k:IntKind}{a:Int}:valL g (.slc z true false) [.osl w v y p n,.int k a]= .osl w v y (p+(a:Int).toNat*y) (((n:Int):Int).toNat-(a:Int).toNat):=by simp[valL,loB,hiB]
theorem Vb{g:JN}{z w v y p n:Nat}{k:IntKind}{a:Int}:okL g (.slc z true false) [.osl w v y p n,.int k a]=((0<=(a:Int)∧(a:Int)<=(n:Int)∧(n:Int)<=(n:Int))∧y=z∧qF g w v=true∧((a:Int)=0∨(a:Int)<n)):=by simp[okL,loB,hiB,ax,and_assoc]
theorem Zv{s:List UInt8}{k:IntKind}{c:Int}:valP (.sslc false true) [.str s,.int k c]= .str ((s.drop (0:Int).toNat).take ((c:Int).toNat-(0:Int).toNat)):=by simp[valP,loB,hiB]
theorem Vm{s:List UInt8}{k:IntKind}{c:Int}:okP (.sslc false true) [.str s,.int k c]=(0<=(0:Int)∧(0:Int)<=c∧c<=(s.length:Int)):=by simp[okP,loB,hiB,ax]
theorem Zj{g:JN}{z n:Nat}{f:Nat->JT}{k:IntKind}{c:Int}:valL g (.slc z false true) [.sl n f,.int k c]= .sl ((c:Int).toNat-(0:Int).toNat) (λi=>f ((0:Int).toNat+i)):=by simp[valL,loB,hiB]
theorem Vd{g:JN}{z n:Nat}{f:Nat->JT}{k:IntKind}{c:Int}:okL g (.slc z false true) [.sl n f,.int k c]=((0<=(0:Int)∧(0:Int)<=c∧c<=(n:Int))∧(0<n->(f 0).length=z)):=by simp[okL,loB,hiB,ax,and_assoc]
theorem Zh{g:JN}{z w v y p n:Nat}{k:IntKind}{c:Int}:valL g (.slc z false true) [.osl w v y p n,.int k c]= .osl w v y (p+(0:Int).toNat*y) ((c:Int).toNat-(0:Int).toNat):=by simp[valL,loB,hiB]
theorem KZ{g:JN}{z w v y p n:Nat}{k:IntKind}{c:Int}:okL g (.slc z false true) [.osl w v y p n,.int k c]=((0<=(0:Int)∧(0:Int)<=c∧c<=(n:Int))∧y=z∧qF g w v=true∧((0:Int)=0∨(0:Int)<n)):=by simp[okL,loB,hiB,ax,and_assoc]
theorem Zo{k l:IntKind}{a c:Int}:valP (.mm true) [.int k a,.int l c]= .int k (max a c):=rfl
theorem Zq{k l:IntKind}{a c:Int}:valP (.mm false) [.int k a,.int l c]= .int k (min a c):=rfl
theorem Zp{k l m:IntKind}{a c e:Int}:valP (.mm true) [.int k a,.int l c,.int m e]= .int k (max (max a c) e):=rfl
theorem Zr{k l m:IntKind}{a c e:Int}:valP (.mm false) [.int k a,.int l c,.int m e]= .int k (min (min a c) e):=rfl
theorem oP{g:JN}{n:Nat}{f:Nat->JT}:valL g .len [.sl n f]= .int .i64 n:=rfl
theorem uj{g:JN}{n:Nat}{f:Nat->JT}:okL g .len [.sl n f]=True:=rfl
theorem oO{g:JN}:valL g .len [.nl]= .int .i64 0:=rfl
theorem ui{g:JN}:okL g .len [.nl]=True:=rfl
theorem Zu{s:List UInt8}:valP .slen [.str s]= .int .i64 s.length:=rfl
theorem Vl{s:List UInt8}:okP .slen [.str s]=True:=rfl
theorem iI{g:JN}{k v z p n:Nat}:valL g .len [.osl k v z p n]= .int .i64 n:=rfl
theorem nH{g:JN}{k v z p n:Nat}:okL g .len [.osl k v z p n]=(qF g k v=true):=rfl
theorem oM{g:JN}{z n:Nat}{f:Nat->JT}{k:IntKind}{i:Int}:valL g (.idxA z) [.sl n f,.int k i]= .ip (f i.toNat):=rfl
theorem ug{g:JN}{z n:Nat}{f:Nat->JT}{k:IntKind}{i:Int}:okL g (.idxA z) [.sl n f,.int k i]=((0<=i∧i<n)∧(f i.toNat).length=z):=rfl
theorem iH{g:JN}{z q v y p n:Nat}{k:IntKind}{i:Int}:valL g (.idxA z) [.osl q v y p n,.int k i]= .op q v (p+i.toNat*y):=rfl
theorem nG{g:JN}{z q v y p n:Nat}{k:IntKind}{i:Int}:okL g (.idxA z) [.osl q v y p n,.int k i]=((0<=i∧i<n)∧y=z∧(cellsOf g q v).isSome=true):=rfl
theorem oI{g:JN}{m z:Nat}{c:JT}{k:IntKind}{i:Int}:valL g (.idxArr m z) [.ip c,.int k i]= .ip ((c.drop (i.toNat*z)).take z):=rfl
theorem ub{g:JN}{m z:Nat}{c:JT}{k:IntKind}{i:Int}:okL g (.idxArr m z) [.ip c,.int k i]=((0<=i∧i<m)∧c.length=m*z):=rfl
theorem oJ{g:JN}{m z q v p:Nat}{k:IntKind}{i:Int}:valL g (.idxArr m z) [.op q v p,.int k i]= .op q v (p+i.toNat*z):=rfl
theorem uc{g:JN}{m z q v p:Nat}{k:IntKind}{i:Int}:okL g (.idxArr m z) [.op q v p,.int k i]=((0<=i∧i<m)∧(cellsOf g q v).isSome=true):=rfl
theorem oK{g:JN}{p:Nat}{c:JT}:valL g (.fldA p) [.ip c]= .ip (c.drop p):=rfl
theorem ue{g:JN}{p:Nat}{c:JT}:okL g (.fldA p) [.ip c]=(p<c.length):=rfl
theorem oL{g:JN}{p q v o:Nat}:valL g (.fldA p) [.op q v o]= .op q v (o+p):=rfl
theorem uf{g:JN}{p q v o:Nat}:okL g (.fldA p) [.op q v o]=((cellsOf g q v).isSome=true):=rfl
theorem Zc{g:JN}{n:Option Nat}{c:JT}:valL g (.load n) [.ip c]=cut c 0 n:=rfl
theorem KU{g:JN}{n:Option Nat}{c:JT}:okL g (.load n) [.ip c]=jK c 0 n:=rfl
theorem Zd{g:JN}{n:Option Nat}{q v p:Nat}:valL g (.load n) [.op q v p]=cut ((cellsOf g q v).getD []) p n:=rfl
theorem KV{g:JN}{n:Option Nat}{q v p:Nat}:okL g (.load n) [.op q v p]=((cellsOf g q v).isSome=true∧jK ((cellsOf g q v).getD []) p n):=rfl
theorem Zf{g:JN}{c:JT}:valL g .nilchk [.ip c]= .ip c:=rfl
theorem KX{g:JN}{c:JT}:okL g .nilchk [.ip c]=True:=rfl
theorem Zg{g:JN}{q v p:Nat}:valL g .nilchk [.op q v p]= .op q v p:=rfl
theorem KY{g:JN}{q v p:Nat}:okL g .nilchk [.op q v p]=((cellsOf g q v).isSome=true):=rfl
theorem Ze{g:JN}{f:Fn}{a c:JT}:valL g .nilchk [.fn f a c]= .fn f a c:=rfl
theorem KW{g:JN}{f:Nat}{a c:JT}:okL g .nilchk [.fn (.func f) a c]=True:=rfl
theorem Jt{c:JT}{p:Nat}:cut c p none=(c[p]?).getD .undef:=rfl
theorem Ju{c:JT}{p n:Nat}:cut c p (some n)= .agg ((c.drop p).take n):=rfl
theorem Kv{b w:Bool}:qO (.bool b) w=(b==w):=rfl
theorem tG{g b w:Bool}:qO (.gd g (.bool b)) w=(g&&(b==w)):=rfl
theorem tH{b:Bool}:zx (.bool b)=true:=rfl
theorem nq{g b:Bool}:zx (.gd g (.bool b))=true:=rfl
theorem Vr{c:Bool}{x y:AV}:vW (.bool c) x y=((c=true->x.flag=true)∧(c=false->y.flag=true)):=rfl
theorem uz{g c:Bool}{x y:AV}:vW (.gd g (.bool c)) x y=(g=true∧(c=true->x.flag=true)∧(c=false->y.flag=true)):=rfl
theorem uA{c p q:Bool}:j0 (.bool c) (.bool p) (.bool q)= .bool ((c&&p)||(!c&&q)):=rfl
theorem uG{c p q gc:Bool}:j0 (.gd gc (.bool c)) (.bool p) (.bool q)= .bool ((c&&p)||(!c&&q)):=rfl
theorem uB{c p q gq:Bool}:j0 (.bool c) (.bool p) (.gd gq (.bool q))= .bool ((c&&p)||(!c&&q)):=rfl
theorem uH{c p q gq gc:Bool}:j0 (.gd gc (.bool c)) (.bool p) (.gd gq (.bool q))= .bool ((c&&p)||(!c&&q)):=rfl
theorem uC{c p q gp:Bool}:j0 (.bool c) (.gd gp (.bool p)) (.bool q)= .bool ((c&&p)||(!c&&q)):=rfl
theorem uI{c p q gp gc:Bool}:j0 (.gd gc (.bool c)) (.gd gp (.bool p)) (.bool q)= .bool ((c&&p)||(!c&&q)):=rfl
theorem uD{c p q gp gq:Bool}:j0 (.bool c) (.gd gp (.bool p)) (.gd gq (.bool q))= .bool ((c&&p)||(!c&&q)):=rfl
theorem uJ{c p q gp gq gc:Bool}:j0 (.gd gc (.bool c)) (.gd gp (.bool p)) (.gd gq (.bool q))= .bool ((c&&p)||(!c&&q)):=rfl
theorem FF{P:Program}{b:Nat}{Q:Ex->Nx}{t:JT}{h:JN}:qV P b .skip Q t h=Q .normal t h:=(rfl)
theorem NM{P:Program}{b:Nat}{Q:Ex->Nx}{t:JT}{h:JN}{l:List RO}:qV P b (.ops l) Q t h=opsA P b l (Q .normal) t h:=(rfl)
theorem NP{P:Program}{b:Nat}{Q:Ex->Nx}{t:JT}{h:JN}{x y:C}:qV P b (.seq x y) Q t h=qV P b x (Ex.andThen (qV P b y Q) Q) t h:=(rfl)
theorem FC{P:Program}{b:Nat}{Q:Ex->Nx}{t:JT}{h:JN}{c:X}{x y:C}:qV P b (.cond c x y) Q t h=gn (ev t c) (qV P b x Q) (qV P b y Q) t h:=(rfl)
theorem Yw{P:Program}{b:Nat}{Q:Ex->Nx}{t:JT}{h:JN}{i:Nat}{x:C}:qV P b (.block i x) Q t h=qV P b x (Ex.inBlock i Q) t h:=(rfl)
theorem FD{P:Program}{b:Nat}{Q:Ex->Nx}{t:JT}{h:JN}{i:Nat}:qV P b (.exit i) Q t h=Q (.exit i) t h:=(rfl)
theorem NN{P:Program}{b:Nat}{Q:Ex->Nx}{t:JT}{h:JN}:qV P b .ret Q t h=Q .ret t h:=(rfl)
theorem Sr{K:Nx}{Q:Ex->Nx}{t:JT}{h:JN}:Ex.andThen K Q .normal t h=K t h:=(rfl)
theorem Sm{K:Nx}{Q:Ex->Nx}{t:JT}{h:JN}{i:Nat}:Ex.andThen K Q (.exit i) t h=Q (.exit i) t h:=(rfl)
theorem Ss{K:Nx}{Q:Ex->Nx}{t:JT}{h:JN}:Ex.andThen K Q .ret t h=Q .ret t h:=(rfl)
theorem S5{i:Nat}{Q:Ex->Nx}{t:JT}{h:JN}:Ex.inBlock i Q .normal t h=Q .normal t h:=(rfl)
theorem S7{i:Nat}{Q:Ex->Nx}{t:JT}{h:JN}:Ex.inBlock i Q .ret t h=Q .ret t h:=(rfl)
theorem S4{i j:Nat}{Q:Ex->Nx}{t:JT}{h:JN}:Ex.inBlock i Q (.exit j) t h=if j=i then Q .normal t h else Q (.exit j) t h:=(rfl)
end AF
end
section
namespace AF
open Go
attribute [go_sem] LO Zk Ve Ib I6 Ic I7 Ie I8 If I9 Ig La Ih Lc Ii Ld Ij Le Aj BS Kt VU SQ SO oh sP nU mI QS JM Qz rU QX JR QD rY Wl Y7 V5 Jo QV JP QB rW QQ JK Qx QY JS rZ Wh Y4 V2 Jl Wj Y6 V4 Jn ot sT nX mL Wi Y5 V3 Jm We Y2 V1 Jj QZ JU QE sa iw mZ ic gf QR JL Qy rT ix nc ig gh iC nh rS Wg Y3 Ue P4 PO MY Uf P5 LU CU PQ CP WI L2 C5 Mc C9 L9 C7 Md Da PR MZ LX C3 LV C2 LZ C4 WF ZC PV L8 C6 L6 CO PP CX CW LQ PL LP LR C0 CQ PS YZ JE oC vC sX nk pS pu ri pJ pZ pD rc pF re pG rf pH rh pI pU py ra pE pY pC pX pB pW pA pV pz pT px Z0 ZZ rj pK dG dF rk pL rl pM rt pR rq pQ rp pP rn pO rm pN Zl Vf WB A5 WA A4 Zm Vg aJ cd ar aD yu af vD eZ db eY mN og sO nT mH ua nB nC AU AT AS KP Ww A1 Wz A3 YK YL Wx A2 oR uk mW gw sK mV Zs Vj Zt Vk oU um Zw Vn Zi Vb Zv Vm Zj Vd Zh KZ Zo Zq Zp Zr oP uj oO ui Zu Vl iI nH oM ug iH nG oI ub oJ uc oK ue oL uf Zc KU Zd KV Zf KX Zg KY Ze KW Jt Ju Kv tG tH nq Vr uz uA uG uB uH uC uI uD uJ FF NM NP FC Yw FD NN Sr Sm Ss S5 S7 S4
attribute [go_sem] and_true true_and List.drop_zero List.drop_succ_cons List.getElem?_cons_zero List.getElem?_cons_succ Option.getD_some List.length_cons List.length_nil Int.toNat_natCast beq_true imp_self and_self implies_true Bool.and_true Bool.and_false Bool.or_false decide_eq_true_eq Bool.and_eq_true
theorem Qh(t:JT)(h:JN):vp t h []=True:=rfl
theorem nQ(t:JT)(h:JN):je t h []= []:=rfl
theorem nR(n:Nat)(l:List RV)(t:JT)(h:JN):je t h (.tmp n::l)=zG n t::je t h l:=rfl
theorem VL(v:AV):gX [v]=v:=rfl
theorem VM(v u:AV)(l:JT):gX (v::u::l)= .tup (v::u::l):=rfl
theorem mO(c:Bool)(A B:Nx)(t:JT)(h:JN):gn (.bool c) A B t h=((c=true->A t h)∧(c=false->B t h)):=rfl
theorem qp{n:Int}(h0: -9223372036854775808<=n)(h1:n<=9223372036854775807):IntKind.i64.wrap n=n:=by
 have e1:(2:Int)^IntKind.bits IntKind.i64=18446744073709551616:=rfl;have e2:(2:Int)^(IntKind.bits IntKind.i64-1)=9223372036854775808:=rfl;have e3:IntKind.signed IntKind.i64=true:=rfl;unfold IntKind.wrap;rw[e1,e2,e3];simp only[Bool.true_and,decide_eq_true_eq];split<;>omega
theorem bT{rs:List RV}{h0:JN}{K:AV->JN->Prop}{t:JT}{hh tl:JN}{r:AV}(e:hh=h0++tl)(hok:vp t hh rs)(hK:K r h0)(hv:VLe (frz (λk=>decide (h0.length<=k)) hh 8 (gX (je t hh rs))) r):
  fnQ rs h0 K .ret t hh:=by subst e;exact J5 hok hK hv
theorem qr{P:Program}{b:Nat}{x:C}{Q:Ex->Nx}{ι:Type}{t:JT}{h:JN}(T:ι->JT)(H:ι->JN)(inv:ι->Prop)(m:ι->Nat)(i0:ι)(h0:inv i0)(hw:Wk t h (T i0) (H i0))
  (round: ∀i,inv i-> ∀K:Nx,(∀t' h' j,inv j->m j<m i->Wk t' h' (T j) (H j)->K t' h')->qV P b x (Ex.andThen K Q) (T i) (H i)):qV P b (.loop x) Q t h:=by
 refine⟨λn t h=> ∃i,inv i∧m i=n∧t=T i∧h=H i,⟨m i0,T i0,H i0,hw,i0,h0,rfl,rfl,rfl⟩,?_⟩;rintro n t' h' ⟨i,hi,rfl,rfl,rfl⟩;exact round i hi _ (λt'' h'' j hj hlt hw=>⟨m j,T j,H j,hlt,hw,j,hj,rfl,rfl,rfl⟩)
def qY(n:Nat)(l:List (Nat×AV)):JT:=l.foldl (λt p=>jj p.1 t p.2) (List.replicate n .undef)
theorem wO.nil:wO [] []:=trivial
theorem qb(a:AV):VLe a .undef=True:=by simp[VLe.undef]
theorem qf(a:AV):VLe a a=True:=by simp[VLe.refl]
theorem qe{k:IntKind}{a b:Int}(h:a=b):VLe (.int k a) (.int k b):=h▸VLe.refl _
theorem qg:wO [] []=True:=rfl
theorem qc{a b:AV}{l m:JT}:wO (a::l) (b::m)=(VLe a b∧wO l m):=rfl
theorem qh{rs:List RV}{h:JN}{t:JT}{r:AV}(hok:vp t h rs)(hv:VLe (frz (λk=>decide (h.length<=k)) h 8 (gX (je t h rs))) r):fnQ rs h (λr1 h1=>r1=r∧h1=h) .ret t h:=
 bT (tl:= []) (by simp) hok ⟨rfl,rfl⟩ hv
theorem qa{rs:List RV}{h tl:JN}{t:JT}{r:AV}(hok:vp t (h++tl) rs)(hv:VLe (frz (λk=>decide (h.length<=k)) (h++tl) 8 (gX (je t (h++tl) rs))) r):fnQ rs h (λr1 h1=>r1=r∧h1=h) .ret t (h++tl):=
 bT rfl hok ⟨rfl,rfl⟩ hv
section
variable {fz : Nat -> Bool} {h : JN} {n : Nat}
theorem frz_int{k:IntKind}{a:Int}:frz fz h (n+1) (.int k a)= .int k a:=rfl
theorem frz_bool{a:Bool}:frz fz h (n+1) (.bool a)= .bool a:=rfl
theorem frz_str{a:List UInt8}:frz fz h (n+1) (.str a)= .str a:=rfl
theorem frz_sl{m:Nat}{f:Nat->JT}:frz fz h (n+1) (.sl m f)= .sl m f:=rfl
theorem frz_nl:frz fz h (n+1) .nl= .nl:=rfl
theorem frz_nilp:frz fz h (n+1) .nilp= .nilp:=rfl
theorem frz_nilfn:frz fz h (n+1) .nilfn= .nilfn:=rfl
theorem frz_ifc:frz fz h (n+1) .ifc= .ifc:=rfl
theorem frz_nilif:frz fz h (n+1) .nilif= .nilif:=rfl
theorem frz_undef:frz fz h (n+1) .undef= .undef:=rfl
theorem frz_ip{cs:JT}:frz fz h (n+1) (.ip cs)= .ip cs:=rfl
theorem frz_agg{cs:JT}:frz fz h (n+1) (.agg cs)= .agg (cs.map (frz fz h n)):=rfl
theorem frz_tup{cs:JT}:frz fz h (n+1) (.tup cs)= .tup (cs.map (frz fz h n)):=rfl
theorem frz_fn{f:Fn}{a b:JT}:frz fz h (n+1) (.fn f a b)= .fn f (a.map (frz fz h n)) (b.map (frz fz h n)):=rfl
theorem frz_gd{g:Bool}{v:AV}:frz fz h (n+1) (.gd g v)= .gd g (frz fz h n v):=rfl
end
attribute [go_sem] frz_int frz_bool frz_str frz_sl frz_nl frz_nilp frz_nilfn frz_ifc frz_nilif frz_undef frz_ip frz_agg frz_tup frz_fn frz_gd if_true if_false List.map_cons List.map_nil
attribute [go_sem] mO Qh nQ nR VL VM
end AF
end
section
namespace AF
open Go
section
variable {h : JN} {l : JN} {n k v : Nat} {o : AObj} {ty : TypeId} {cs : JT}
theorem getO_app0:qu h.length (h++l)=l[0]? :=by unfold qu;rw[List.getElem?_append_right (Nat.le_refl _),Nat.sub_self]
theorem getO_app:qu (h.length+n) (h++l)=l[n]? :=by unfold qu;rw[List.getElem?_append_right (by omega),Nat.add_sub_cancel_left]
theorem setO_app0:qt h.length (h++l) o=h++l.set 0 o:=by unfold qt;rw[List.set_append_right _ _ (Nat.le_refl _),Nat.sub_self]
theorem setO_app:qt (h.length+n) (h++l) o=h++l.set n o:=by unfold qt;rw[List.set_append_right _ _ (by omega),Nat.add_sub_cancel_left]
theorem verOf_mem:qo (some (.mem v ty cs))=v:=rfl
theorem verOf_emp:qo (some (.emp v))=v:=rfl
theorem tyOf_mem:ZK (some (.mem v ty cs))=ty:=rfl
theorem site_app:qG (h++l) (h.length+n)=qG l n:=by unfold qG;rw[getO_app];rfl
theorem site_app0:qG (h++l) h.length=qG l 0:=by unfold qG;rw[getO_app0];rfl
theorem site_0_mem{v:Nat}:qG (.mem v ty cs::l) 0=true:=rfl
theorem site_0_emp{v:Nat}:qG (.emp v::l) 0=true:=rfl
theorem site_s:qG (o::l) (n+1)=qG l n:=rfl
theorem cellsOf_app:cellsOf (h++l) (h.length+n) v=cellsOf l n v:=by unfold cellsOf;rw[getO_app];rfl
theorem cellsOf_app0:cellsOf (h++l) h.length v=cellsOf l 0 v:=by unfold cellsOf;rw[getO_app0];rfl
theorem cellsOf_0{w:Nat}:cellsOf (.mem w ty cs::l) 0 v=if w=v then some cs else none:=rfl
theorem cellsOf_s:cellsOf (o::l) (n+1) v=cellsOf l n v:=rfl
theorem liveS_app:qF (h++l) (h.length+n) v=qF l n v:=by unfold qF;rw[getO_app];rfl
theorem liveS_0_mem{w:Nat}:qF (.mem w ty cs::l) 0 v=(w==v):=rfl
theorem liveS_0_emp{w:Nat}:qF (.emp w::l) 0 v=(w==v):=rfl
theorem liveS_s:qF (o::l) (n+1) v=qF l n v:=rfl
theorem tyOk_mem{t:TypeId}:pa (some (.mem v t cs)) ty=(t==ty):=rfl
theorem tyOk_emp:pa (some (.emp v)) ty=true:=rfl
theorem b_add0{b:Nat}:b+0=b:=rfl
theorem appO_mem{t:TypeId}{ds:JT}{c m:Nat}:iO (some (.mem k t ds)) ty v c m cs= .mem (v+1) ty (ds.take c++cs):=rfl
theorem appO_emp{c m:Nat}:iO (some (.emp k)) ty v c m cs=if m=0 then .emp (v+1) else .mem (v+1) ty cs:=rfl
end
section
variable {b : Nat} {h : JN} {t : JT} {d : Option Nat} {nx : JT -> JN -> Prop}
theorem FT{j sz:Nat}{ty:TypeId}:effE b h (.nilo j sz ty) [] t d nx=(qG h (b+j)=true∧nx (qS t d (.osl (b+j) (qo (qu (b+j) h)+1) sz 0 0)) (qt (b+j) h (.emp (qo (qu (b+j) h)+1)))):=(rfl)
theorem YS{j:Nat}{ty:TypeId}{z:JT}:effE b h (.alloc j ty z) [] t d nx=(qG h (b+j)=true∧nx (qS t d (.op (b+j) (qo (qu (b+j) h)+1) 0)) (qt (b+j) h (.mem (qo (qu (b+j) h)+1) ty z))):=(rfl)
theorem N5{j:Nat}{ty:TypeId}{v:AV}:effE b h (.box j ty) [v] t d nx=((qG h (b+j)=true∧v.solid=true)∧nx (qS t d (.op (b+j) (qo (qu (b+j) h)+1) 0)) (qt (b+j) h (.mem (qo (qu (b+j) h)+1) ty v.cells))):=(rfl)
theorem YV{n k ver off:Nat}{v:AV}:effE b h (.store n) [.op k ver off,v] t d nx=(((cellsOf h k ver).isSome=true∧v.solid=true∧v.cells.length=n∧off+n<=((cellsOf h k ver).getD []).length)∧
  nx (qS t d (.tup [])) (qt k h (.mem ver (ZK (qu k h)) (((cellsOf h k ver).getD []).take off++v.cells++((cellsOf h k ver).getD []).drop (off+n))))):=(rfl)
theorem YU{j sz:Nat}{ty:TypeId}{z:JT}{bytes:Nat}{l c:Int}:effE b h (.mkslc j sz ty z bytes) [.int .i64 l,.int .i64 c] t d nx=((qG h (b+j)=true∧z.length=sz∧0<=l∧l=c∧c*(bytes:Int)<=140737488355328∧c<=140737488355328)∧
   nx (qS t d (.osl (b+j) (qo (qu (b+j) h)+1) sz 0 l.toNat)) (qt (b+j) h (.mem (qo (qu (b+j) h)+1) ty (zQ z l.toNat)))):=(rfl)
theorem FS{j sz n:Nat}{ty:TypeId}{z:JT}{ps:List (Nat×Nat)}{vs:JT}:effE b h (.bslc j sz n ty z ps) vs t d nx=((qG h (b+j)=true∧z.length=sz∧vE (n*sz) ps vs∧n<=140737488355328)∧
   nx (qS t d (.osl (b+j) (qo (qu (b+j) h)+1) sz 0 n)) (qt (b+j) h (.mem (qo (qu (b+j) h)+1) ty (vR (zQ z n) ps vs)))):=by
 cases vs<;>rfl
theorem YT{j sz:Nat}{ty:TypeId}{bytes:Nat}{y:AV}:effE b h (.app j sz ty bytes) [.nl,y] t d nx=(((qk h y).isSome=true∧qG h (b+j)=true∧((qk h y).getD (0,[])).2.length=((qk h y).getD (0,[])).1*sz∧
    (((qk h y).getD (0,[])).1:Int)*bytes<=140737488355328∧(((qk h y).getD (0,[])).1:Int)<=140737488355328)∧
   nx (qS t d (.osl (b+j) (qo (qu (b+j) h)+1) sz 0 ((qk h y).getD (0,[])).1))
    (qt (b+j) h (if ((qk h y).getD (0,[])).1=0 then .emp (qo (qu (b+j) h)+1) else .mem (qo (qu (b+j) h)+1) ty ((qk h y).getD (0,[])).2))):=(rfl)
theorem N4{j sz:Nat}{ty:TypeId}{bytes k ver sz' off m:Nat}{y:AV}:effE b h (.app j sz ty bytes) [.osl k ver sz' off m,y] t d nx=(((qk h y).isSome=true∧qF h k ver=true∧pa (qu k h) ty=true∧m*sz<=((cellsOf h k ver).getD []).length∧xY (.osl k ver sz' off m) y=true∧sz'=sz∧off=0∧
    ((qk h y).getD (0,[])).2.length=((qk h y).getD (0,[])).1*sz∧
    ((m+((qk h y).getD (0,[])).1:Nat):Int)*bytes<=140737488355328∧((m+((qk h y).getD (0,[])).1:Nat):Int)<=140737488355328)∧
   nx (qS t d (.osl k (ver+1) sz 0 (m+((qk h y).getD (0,[])).1)))
    (qt k h (iO (qu k h) ty ver (m*sz) ((qk h y).getD (0,[])).1 ((qk h y).getD (0,[])).2))):=(rfl)
theorem FR{j:Nat}{ty:TypeId}{s:List UInt8}{k ver sz' off m:Nat}:effE b h (.apps j ty) [.osl k ver sz' off m,.str s] t d nx=((qF h k ver=true∧pa (qu k h) ty=true∧m<=((cellsOf h k ver).getD []).length∧sz'=1∧off=0∧((m+s.length:Nat):Int)<=140737488355328)∧
   nx (qS t d (.osl k (ver+1) 1 0 (m+s.length)))
    (qt k h (iO (qu k h) ty ver m s.length (zE s)))):=(rfl)
theorem uQ{n:Nat}{v:AV}:qS t (some n) v=jj n t v:=rfl
theorem uP{v:AV}:qS t none v=t:=rfl
theorem cL:qk h .nl=some (0,[]):=rfl
theorem cO{n:Nat}{f:Nat->JT}:qk h (.sl n f)=some (n,(List.range n).flatMap f):=rfl
end
attribute [go_sem] getO_app0 getO_app setO_app0 setO_app verOf_mem verOf_emp tyOf_mem site_app site_app0 site_0_mem site_0_emp site_s cellsOf_app cellsOf_app0 cellsOf_0 cellsOf_s liveS_app liveS_0_mem liveS_0_emp liveS_s tyOk_mem tyOk_emp b_add0 appO_mem appO_emp
attribute [go_sem] FT YS N5 YV YU FS YT N4 FR uQ uP cL cO
attribute [go_sem] List.set_cons_zero List.set_cons_succ Option.isSome_some List.take_zero List.take_succ_cons List.take_nil List.drop_nil List.nil_append List.cons_append List.append_nil Nat.reduceAdd Nat.reduceMul Nat.reduceSub Nat.reduceLeDiff Nat.reduceEqDiff Nat.zero_add
end AF
end
section
namespace AF
open Go
theorem qI{P:Program}{f:Nat}{p:Bool}{vs:JT}{d:Option Nat}{nx:Nx}{t:JT}{h:JN}{r:AV}(hc:ACalls P f (strips vs) h r h)(hf:flags vs)(hn:nx (qS t d r) h):rG P f p vs d nx t h:=
 ⟨hf,r,h,hc,λ_=>rfl,hn⟩
theorem qE{P:Program}{f:Nat}{vs:JT}{d:Option Nat}{nx:Nx}{t:JT}{h h':JN}{r:AV}(hc:ACalls P f (strips vs) h r h')(hf:flags vs)(hn:nx (qS t d r) h'):rG P f false vs d nx t h:=
 ⟨hf,r,h',hc,by simp,hn⟩
theorem qN{P:Program}{f:Nat}{p g:Bool}{vs:JT}{d:Option Nat}{nx:Nx}{t:JT}{h:JN}{r:AV}(hc:g=true->flags vs∧ACalls P f (strips vs) h r h)(hn:nx (qS t d (.gd g r)) h):rH P f p g vs d nx t h:=
 ⟨r,h,λe=>⟨(hc e).1,(hc e).2,λ_=>rfl⟩,λ_=>rfl,hn⟩
theorem Pv{t:JT}{h:JN}:vp t h []:=trivial
theorem Px{t:JT}{h:JN}{n:Nat}{l:List RV}(hl:vp t h l):vp t h (.tmp n::l):=⟨trivial,hl⟩
theorem Y9:flags []:=trivial
theorem Y8{a:AV}{l:JT}(h:a.flag=true)(t:flags l):flags (a::l):=⟨h,t⟩
theorem qj{P:Program}{f:Nat}{p:Bool}{vs:JT}{d:Option Nat}{nx:Nx}{t:JT}{h:JN}(r:AV)(hn:nx (qS t d (.gd false r)) h):rH P f p false vs d nx t h:=by
 refine⟨r,h,?_,λ_=>rfl,hn⟩;intro e;cases e
theorem qd{a b:Bool}(h:a=b):VLe (.bool a) (.bool b):=h▸VLe.refl _
theorem vL{a b:List UInt8}(h:a=b):VLe (.str a) (.str b):=h▸VLe.refl _
theorem Dx{n m:Nat}{f g:Nat->JT}(e:n=m)(h: ∀i,i<m->f i=g i):VLe (.sl n f) (.sl m g):=by
 subst e;intro w σ x hx;have h1:=zO rfl hx;cases h1 with
 |nilsl=>exact .imm .nilsl
 |sl sz b off cap vals hn hm hb hlt hsz hc h1 hv=>
  refine .imm (.sl sz b off cap vals hn hm hb hlt (λi hi=> ?_) hc h1 (λi j c hi hj=> ?_))
  ·rw[<-h i hi];exact hsz i hi
  ·rw[<-h i hi]at hj;exact hv i j c hi hj
theorem qU{f:Nat->JT}:VLe .nl (.sl 0 f):=by
 intro w σ x hx;have h1:=zO rfl hx;cases h1 with
 |nl=>exact .imm .nilsl
theorem bF{l m:JT}(h:wO l m):VLe (.tup l) (.tup m):=by
 intro w σ x hx;obtain⟨vs,rfl,hl,hv⟩:=fH hx;refine .tup (by rw[hl,h.length]) (λi c x hc hx=> ?_);obtain⟨a,ha,hle⟩:=h.get i c hc;exact hle w σ x (hv i a x ha hx)
def WW(v:AV)(h:JN)(m:Option Nat):Prop:=
 match v with
 | .op k ver off=>okL h (.load m) [.op k ver off]
 |_=>False
theorem nP{n:Nat}{m:Option Nat}{l:List RV}{t:JT}{h:JN}:vp t h (.cell n m::l)=(WW (zG n t) h m∧vp t h l):=rfl
theorem hQ{n:Nat}{m:Option Nat}{l:List RV}{t:JT}{h:JN}:je t h (.cell n m::l)=valL h (.load m) [zG n t]::je t h l:=rfl
theorem rQ{k ver off:Nat}{h:JN}{m:Option Nat}:WW (.op k ver off) h m=okL h (.load m) [.op k ver off]:=rfl
attribute [go_sem] nP hQ rQ
theorem fV:jT [] [] []=some true:=rfl
attribute [go_sem] fV Option.map_some Bool.true_bne Bool.false_bne Bool.bne_false
theorem A7{a b:Bool}:(a|| !a&&b)=(a||b):=by cases a<;>simp
theorem Ns{a:Bool}:(a==false)= !a:=by cases a<;>rfl
attribute [go_sem] A7 Ns Bool.not_eq_true' Bool.or_eq_true decide_eq_false_iff_not Bool.or_eq_false_iff Bool.not_eq_false' Bool.and_eq_false_imp Bool.true_or Bool.or_true Bool.false_or Bool.true_and Bool.not_true Bool.not_false decide_not Bool.not_not
end AF
end
section
namespace AF
open Go
theorem kX{rs:List RV}{h0 h' tl:JN}{K:AV->JN->Prop}{t:JT}{r:AV}(hok:vp t (h'++tl) rs)(hl:h'.length=h0.length)(hlow: ∀o∈h',o∈h0∨lowO h0.length o)(hK:K r h')
  (hv:VLe (frz (λk=>decide (h0.length<=k)) (h'++tl) 8 (gX (je t (h'++tl) rs))) r):fnQ rs h0 K .ret t (h'++tl):=
 ⟨r,h',hK,hok,⟨tl,rfl⟩,hl,hlow,VOut.of 8 hv⟩
theorem zH{rs:List RV}{h0 h' tl:JN}{K:AV->JN->Prop}{t:JT}{r:AV}(hok:vp t (h'++tl) rs)(hl:h'.length=h0.length)(hlow: ∀o∈h',o∈h0∨lowO h0.length o)(hK:K r h')
  (hv:VLe (frz (λk=>decide (h0.length<=k)) (h'++tl) 8 (gX (je t (h'++tl) rs))) r):fnQ rs h0 K .normal t (h'++tl):=
 ⟨r,h',hK,hok,⟨tl,rfl⟩,hl,hlow,VOut.of 8 hv⟩
section
variable {k v : Nat} {h l : JN} {o o' : AObj} {ty : TypeId} {cs : JT}
theorem zA(hk:k<h.length):qu k (h++l)=qu k h:=by unfold qu;rw[List.getElem?_append_left hk]
theorem zC(hk:k<h.length):qt k (h++l) o=qt k h o++l:=by unfold qt;rw[List.set_append_left _ _ hk]
theorem qL:(qt k h o).length=h.length:=by unfold qt;simp
theorem jf(hk:k<h.length):qu k (qt k h o)=some o:=by unfold qu qt;rw[List.getElem?_set_self hk]
theorem kv:qt k (qt k h o) o'=qt k h o':=by unfold qt;rw[List.set_set]
theorem qJ(e:qu k h=some (.mem v ty cs)):cellsOf h k v=some cs:=by unfold cellsOf;rw[e];simp
theorem zh(e:qu k h=some o):k<h.length:=by unfold qu at e;exact (List.getElem?_eq_some_iff.1 e).1
theorem jk{x:AObj}(hx:x∈qt k h o):x∈h∨x=o:=by
 unfold qt at hx;exact List.mem_or_eq_of_mem_set hx
end
section
variable {k v w n : Nat} {h l : JN} {o o' : AObj} {ty : TypeId} {cs : JT}
theorem yA(hk:k<h.length):qu k (qt k h o++l)=some o:=by rw[zA (by rw[qL];exact hk),jf hk]
theorem vu(hk:k<h.length):cellsOf (qt k h (.mem w ty cs)++l) k v=if w=v then some cs else none:=by unfold cellsOf;rw[yA hk]
theorem cC(hk:k<h.length):qt k (qt k h o++l) o'=qt k h o'++l:=by rw[zC (by rw[qL];exact hk),kv]
theorem getO_seta:qu (h.length+n) (qt k h o++l)=l[n]? :=by
 have:= @getO_app (qt k h o) l n
 rwa [qL]at this
theorem getO_seta0:qu h.length (qt k h o++l)=l[0]? :=by
 have:= @getO_app0 (qt k h o) l
 rwa [qL]at this
theorem setO_seta:qt (h.length+n) (qt k h o++l) o'=qt k h o++l.set n o':=by
 have:= @setO_app (qt k h o) l n o'
 rwa [qL]at this
theorem setO_seta0:qt h.length (qt k h o++l) o'=qt k h o++l.set 0 o':=by
 have:= @setO_app0 (qt k h o) l o'
 rwa [qL]at this
theorem cellsOf_seta:cellsOf (qt k h o++l) (h.length+n) v=cellsOf l n v:=by unfold cellsOf;rw[getO_seta];rfl
theorem cellsOf_seta0:cellsOf (qt k h o++l) h.length v=cellsOf l 0 v:=by unfold cellsOf;rw[getO_seta0];rfl
theorem site_seta:qG (qt k h o++l) (h.length+n)=qG l n:=by unfold qG;rw[getO_seta];rfl
theorem site_seta0:qG (qt k h o++l) h.length=qG l 0:=by unfold qG;rw[getO_seta0];rfl
end
attribute [go_sem] getO_seta getO_seta0 setO_seta setO_seta0 cellsOf_seta cellsOf_seta0 site_seta site_seta0
theorem jE{k:Nat}{h:JN}{o:AObj}(e:qu k h=some o):qt k h o=h:=by
 unfold qu at e;unfold qt;obtain⟨h1,h2⟩:=List.getElem?_eq_some_iff.1 e;rw[<-h2];exact List.set_getElem_self h1
theorem VK:gX []= .tup []:=rfl
attribute [go_sem] VK
end AF
end
section
namespace AF
open Go
def RF(c:Option JT)(g:AV->AV)(off:Nat):AV:=
 match c with
 |some cs=> .ip ((cs.drop off).map g)
 |none=> .undef
def fP(o:Option AObj)(ver sz off len:Nat)(g:AV->AV):AV:=
 match o with
 |some (.mem ve _ cs)=>if ve=ver∧off+len*sz<=cs.length then .sl len (λi=>((cs.drop (off+i*sz)).take sz).map g) else .undef
 |some (.emp ve)=>if ve=ver then .nl else .undef
 |_=> .undef
section
variable {fz : Nat -> Bool} {h : JN} {n k ver sz off len : Nat}
theorem rei_op:rei fz h (n+1) (.op k ver off)=if fz k=true then RF (cellsOf h k ver) (rei fz h n) off else .undef:=rfl
theorem rei_osl:rei fz h (n+1) (.osl k ver sz off len)=if fz k=true then fP (qu k h) ver sz off len (rei fz h n) else .undef:=rfl
theorem frz_op:frz fz h (n+1) (.op k ver off)=if fz k=true then rei fz h (n+1) (.op k ver off) else .op k ver off:=rfl
theorem frz_osl:frz fz h (n+1) (.osl k ver sz off len)=if fz k=true then rei fz h (n+1) (.osl k ver sz off len) else .osl k ver sz off len:=rfl
theorem ipOf_some{cs:JT}{g:AV->AV}:RF (some cs) g off= .ip ((cs.drop off).map g):=rfl
theorem slOf_mem{cs:JT}{g:AV->AV}{ve:Nat}{ty:TypeId}:fP (some (.mem ve ty cs)) ver sz off len g=if ve=ver∧off+len*sz<=cs.length then .sl len (λi=>((cs.drop (off+i*sz)).take sz).map g) else .undef:=rfl
theorem slOf_emp{g:AV->AV}{ve:Nat}:fP (some (.emp ve)) ver sz off len g=if ve=ver then .nl else .undef:=rfl
theorem rei_int{k:IntKind}{a:Int}:rei fz h (n+1) (.int k a)= .int k a:=rfl
theorem rei_bool{a:Bool}:rei fz h (n+1) (.bool a)= .bool a:=rfl
theorem rei_str{a:List UInt8}:rei fz h (n+1) (.str a)= .str a:=rfl
theorem rei_sl{m:Nat}{f:Nat->JT}:rei fz h (n+1) (.sl m f)= .sl m f:=rfl
theorem rei_nl:rei fz h (n+1) .nl= .nl:=rfl
theorem rei_ip{cs:JT}:rei fz h (n+1) (.ip cs)= .ip cs:=rfl
theorem rei_agg{cs:JT}:rei fz h (n+1) (.agg cs)= .agg (cs.map (rei fz h n)):=rfl
theorem rei_tup{cs:JT}:rei fz h (n+1) (.tup cs)= .tup (cs.map (rei fz h n)):=rfl
theorem rei_fn{f:Fn}{a b:JT}:rei fz h (n+1) (.fn f a b)= .fn f (a.map (rei fz h n)) (b.map (rei fz h n)):=rfl
theorem rei_nilp:rei fz h (n+1) .nilp= .nilp:=rfl
theorem rei_undef:rei fz h (n+1) .undef= .undef:=rfl
end
attribute [go_sem] rei_op rei_osl frz_op frz_osl ipOf_some slOf_mem slOf_emp rei_int rei_bool rei_str rei_sl rei_nl rei_ip rei_agg rei_tup rei_fn rei_nilp rei_undef Nat.le_add_right Nat.le_refl Nat.mul_one Nat.one_mul
theorem WJ{P:Program}{b:Nat}{r:List RO}{K:Nx}{t:JT}{h:JN}{d:Option Nat}{xs:List X}{j:Nat}{u:Bool}:opsA P b (⟨d,some (j,u),.callv,xs⟩::r) K t h=
  (zx (zG j t)=true∧(qO (zG j t) u=true->flags (evs t xs)∧wU P (strips (evs t xs)) d (opsA P b r K) t h)∧(qO (zG j t) u=false->opsA P b r K (qS t d .undef) h)):=by simp only[opsA,stepO,kf,R.kd]
theorem rL{P:Program}{k:Nat}{args:JT}{d:Option Nat}{nx:Nx}{t:JT}{h:JN}:wU P (.yld k::args) d nx t h=((∃s ts L,qu k h=some (.lp s ts L))∧jQ P k args h λv h'=>nx (qS t d v) h'):=(rfl)
theorem aK:valP (.un .not) [.undef]= .bool true:=rfl
theorem uE{g q:Bool}:j0 (.bool false) (.gd g .undef) (.bool q)= .bool q:=rfl
attribute [go_sem] WJ rL aK uE true_implies false_implies Bool.false_eq_true Bool.true_eq_false
end AF
end
section
namespace AF
open Go
theorem uo{P:Program}{b:Nat}{l:List RO}: ∀ {nx nx':Nx} {t:JT} {h:JN},(∀t h,nx t h->nx' t h)->opsA P b l nx t h->opsA P b l nx' t h:=by
 induction l with
 |nil=>intro nx nx' t h hn H;exact hn _ _ H
 |cons o l ih=>intro nx nx' t h hn H;exact kh (λt h H=>ih hn H) H
theorem cj{h0:JN}{t:JT}{Q Q':Ex->Nx}{h:JN}(hq: ∀e t h,Q e t h->Q' e t h)(H:ci h0 t Q h):ci h0 t Q' h:=by
 obtain⟨hh,s,ts,L,h1,h2,h3,h4⟩:=H;refine⟨hh,s,ts,L,h1,h2,h3,?_⟩;cases s with
 |ready=>exact hq _ _ _ h4
 |ret=>exact hq _ _ _ h4
 |exit id=>exact hq _ _ _ h4
 |busy=>exact h4
theorem wa{P:Program}{b:Nat}{x:C}: ∀ {Q Q':Ex->Nx} {t:JT} {h:JN},(∀e t h,Q e t h->Q' e t h)->qV P b x Q t h->qV P b x Q' t h:=by
 induction x with
 |skip=>intro Q Q' t h hq H;exact hq _ _ _ H
 |ops l=>intro Q Q' t h hq H;exact uo (λt h H=>hq _ _ _ H) H
 |seq x y ihx ihy=>
  intro Q Q' t h hq H;refine ihx (λe t h H=> ?_) H;cases e with
  |normal=>exact ihy hq H
  |exit id=>exact hq _ _ _ H
  |ret=>exact hq _ _ _ H
 |cond c x y ihx ihy=>
  intro Q Q' t h hq H;simp only[qV,gn]at*;split at H
  ·exact⟨λe=>ihx hq (H.1 e),λe=>ihy hq (H.2 e)⟩
  ·exact⟨ihx hq H.1,ihy hq H.2⟩
  ·exact H.elim
 |block id x ih=>
  intro Q Q' t h hq H;refine ih (λe t h H=> ?_) H;cases e with
  |normal=>exact hq _ _ _ H
  |ret=>exact hq _ _ _ H
  |exit i=>
   simp only[Ex.inBlock]at*;split
   ·rename_i e;rw[if_pos e]at H;exact hq _ _ _ H
   ·rename_i e;rw[if_neg e]at H;exact hq _ _ _ H
 |loop x ih=>
  intro Q Q' t h hq H;obtain⟨I,h1,h2⟩:=H;refine⟨I,h1,λn t' h' hi=>ih (λe t h H=> ?_) (h2 n t' h' hi)⟩;cases e with
  |normal=>exact H
  |exit id=>exact hq _ _ _ H
  |ret=>exact hq _ _ _ H
 |range u ps x y ihx ihy=>
  intro Q Q' t h hq H L hy
  have:=H L hy
  split at this
  ·exact this.le (wO.refl _) (λv h' hr=>⟨v,VLe.refl _,cj hq hr⟩)
  ·exact this
 |exit id=>intro Q Q' t h hq H;exact hq _ _ _ H
 |ret=>intro Q Q' t h hq H;exact hq _ _ _ H
 |wk=>
  intro Q Q' t h hq H;obtain⟨t',h',h1,h2⟩:=H;exact⟨t',h',h1,hq _ _ _ h2⟩
 |draw d=>
  intro Q Q' t h hq H;obtain⟨M,h1,h2⟩:=H;exact⟨M,h1,λt' h' hm=>hq _ _ _ (h2 t' h' hm)⟩
 |bad=>intro Q Q' t h hq H;exact H
def B1(o:Option AObj)(ver sz off n:Nat):Option (Nat×JT):=
 match o with
 |some (.mem v _ cs)=>if v=ver∧off+n*sz<=cs.length then some (n,(cs.drop off).take (n*sz)) else none
 |some (.emp v)=>if v=ver∧n=0 then some (0,[]) else none
 |_=>none
theorem aH{h:JN}{k ver sz off n:Nat}:qk h (.osl k ver sz off n)=B1 (qu k h) ver sz off n:=rfl
theorem Qw{v ver sz off n:Nat}{ty:TypeId}{cs:JT}:B1 (some (.mem v ty cs)) ver sz off n=if v=ver∧off+n*sz<=cs.length then some (n,(cs.drop off).take (n*sz)) else none:=rfl
theorem Qv{v ver sz off n:Nat}:B1 (some (.emp v)) ver sz off n=if v=ver∧n=0 then some (0,[]) else none:=rfl
theorem mC{k v z p n k' v' z' p' n':Nat}:xY (.osl k v z p n) (.osl k' v' z' p' n')=(k !=k'):=rfl
theorem pn{k v z p n m:Nat}{f:Nat->JT}:xY (.osl k v z p n) (.sl m f)=true:=rfl
theorem pm{k v z p n:Nat}:xY (.osl k v z p n) .nl=true:=rfl
attribute [go_sem] Int.toNat_zero decide_true decide_false beq_self_eq_true
attribute [go_sem] aH Qw Qv mC pn pm
theorem iG{g:JN}{z:Nat}{i:AV}:valL g (.idxA z) [.nl,i]= .undef:=rfl
theorem aq{g:JN}{n:Option Nat}:valL g (.load n) [.undef]= .undef:=rfl
theorem aI{g:JN}{n:Nat}:valL g (.fldA n) [.undef]= .undef:=rfl
theorem mE{op:BinOp}{y:AV}:vH op .undef y= .undef:=rfl
theorem uK{p g:Bool}:j0 (.bool true) (.bool p) (.gd g .undef)= .bool p:=rfl
theorem uF{p g:Bool}:j0 (.bool false) (.gd g .undef) (.bool p)= .bool p:=rfl
attribute [go_sem] iG aq aI mE uK uF
theorem Yx{P:Program}{b:Nat}{u:X}{ps:List Nat}{x y:C}{Q:Ex->Nx}{t:JT}{h:JN}:qV P b (.range u ps x y) Q t h=fe P (ev t u) ps (qV P b x) (qV P b y) Q t h:=(rfl)
attribute [go_sem] Yx
end AF
end
section
namespace AF
open Go
theorem HR.move{w:World}{σ:List OB}{h:JN}(H:HR w σ h){k j vj:Nat}{ty:TypeId}{cs:JT}(hj:qu j h=some (.mem vj ty cs))(hk:qG h k=true)(hne:k≠j):
  ∃σ',HR w σ' (qt k (qt j h (.emp (vj+1))) (.mem (qo (qu k h)+1) ty cs))∧Ext w σ w σ'∧
   ∀sz off len x,VR w σ (.osl j vj sz off len) x->VR w σ' (.osl k (qo (qu k h)+1) sz off len) x:=by
 obtain⟨ok,hok,hver⟩:=jq H hk;have hjl:j<σ.length:=by rw[H.len];exact zh hj
 have hkl:k<σ.length:=(List.getElem?_eq_some_iff.1 hok).1;obtain⟨oj,hoj⟩: ∃oj,σ[j]? =some oj:=⟨_,List.getElem?_eq_getElem hjl⟩
 have hobj:=H.obj j _ oj hj hoj;obtain⟨m1,m2,b,arr,m3,m4,m5,m6,m7,m8⟩:=hobj;rw[hver]
 let oj':OB:= { oj with blk:=none,ver:=oj.ver+1 }
 let ok':OB:= { oj with ver:=ok.ver+1 }
 let σ':=(σ.set j oj').set k ok'
 have gk:σ'[k]? =some ok':=by simp[σ',hkl]
 have gj:σ'[j]? =some oj':=by simp only[σ'];rw[List.getElem?_set_ne hne];simp[hjl]
 have go: ∀i,i≠k->i≠j->σ'[i]? =σ[i]? :=by
  intro i h1 h2;simp only[σ'];rw[List.getElem?_set_ne (λe=>h1 e.symm),List.getElem?_set_ne (λe=>h2 e.symm)]
 have blk: ∀(i:Nat) (o:OB) (b:Nat),σ'[i]? =some o->o.blk=some b->(i=k∧oj.blk=some b)∨(i≠k∧i≠j∧σ[i]? =some o):=by
  intro i o b h1 h2
  by_cases e1:i=k
  ·subst e1;rw[gk]at h1;cases h1;exact .inl ⟨rfl,h2⟩
  ·by_cases e2:i=j
   ·subst e2;rw[gj]at h1;cases h1;cases h2
   ·rw[go i e1 e2]at h1;exact .inr ⟨e1,e2,h1⟩
 have hext:Ext w σ w σ':=by
  refine⟨rfl,rfl,rfl,Nat.le_refl _,λ_ _ _=>rfl,?_,?_,λb r h=>⟨r,h⟩⟩
  ·rintro b ⟨i,o,h1,h2⟩;rcases blk i o b h1 h2 with⟨_,h3⟩|⟨_,_,h3⟩
   ·exact .inl ⟨j,oj,hoj,h3⟩
   ·exact .inl ⟨i,o,h3,h2⟩
  ·intro i o h1
   by_cases e1:i=k
   ·subst e1;rw[hok]at h1;cases h1;exact⟨ok',gk,by simp[ok'],by simp[ok']⟩
   ·by_cases e2:i=j
    ·subst e2;rw[hoj]at h1;cases h1;exact⟨oj',gj,by simp[oj'],by simp[oj']⟩
    ·exact⟨o,by rw[go i e1 e2];exact h1,Nat.le_refl _,λ_=>rfl⟩
 refine⟨σ',⟨by simp[σ',qt,H.len],?_,?_,?_⟩,hext,?_⟩
 ·intro i i' o o' b h1 h2 h3 h4;rcases blk i o b h1 h3 with⟨rfl,g1⟩|⟨g0,g1,g2⟩<;>rcases blk i' o' b h2 h4 with⟨rfl,g1'⟩|⟨g0',g1',g2'⟩
  ·rfl
  ·exact absurd (H.inj i' j o' oj b g2' hoj h4 g1) g1'
  ·exact absurd (H.inj i j o oj b g2 hoj h3 g1') g1
  ·exact H.inj i i' o o' b g2 g2' h3 h4
 ·intro i o b h1 h2;rcases blk i o b h1 h2 with⟨_,g1⟩|⟨_,_,g2⟩
  ·exact H.lt j oj b hoj g1
  ·exact H.lt i o b g2 h2
 ·intro i a o ha ho
  by_cases e1:i=k
  ·subst e1;have hkh:i<(qt j h (.emp (vj+1))).length:=by rw[qL,<-H.len];exact hkl
   have:=jf (o:= .mem (ok.ver+1) ty cs) hkh
   unfold qu at this;rw[this]at ha;cases ha;rw[gk]at ho;cases ho;exact⟨rfl,m2,b,arr,m3,m4,m5,m6,m7,λi c x hc hx=>(m8 i c x hc hx).ext hext⟩
  ·by_cases e2:i=j
   ·subst e2;have hjh:i<h.length:=by rw[<-H.len];exact hjl
    simp only[qt]at ha;rw[List.getElem?_set_ne hne,List.getElem?_set_self hjh]at ha;cases ha;rw[gj]at ho;cases ho;exact⟨by simp[oj',m1],rfl⟩
   ·rw[go i e1 e2]at ho;simp only[qt]at ha;rw[List.getElem?_set_ne (λe=>e1 e.symm),List.getElem?_set_ne (λe=>e2 e.symm)]at ha;exact (H.obj i a o ha ho).ext hext (λ_ _=>rfl)
 ·intro sz off len x hx;cases hx with
  |imm h=>cases h
  |osl o ho hs hle hh=>
   rw[hoj]at ho;cases ho;refine .osl ok' gk hs (Nat.le_refl _) (λ_=> ?_);exact hh m1
def fnM(rs:List RV)(h0:JN)(k:Nat)(K:AV->JN->Prop):Ex->Nx
 | .exit _,_,_=>False
 |_,t,hh=> ∃(j vj sz off len:Nat) (ty:TypeId) (cs:JT) (tl:JN),vp t hh rs∧gX (je t hh rs)= .osl j vj sz off len∧hh=h0++tl∧h0.length<=j∧qu j hh=some (.mem vj ty cs)∧
   (∀c∈cs,qR h0.length c=true)∧qG h0 k=true∧K (.osl k (qo (qu k h0)+1) sz off len) (qt k h0 (.mem (qo (qu k h0)+1) ty cs))
theorem mA{P:Program}{f nt ns:Nat}{rs:List RV}{c:C}(hf:qK P f nt ns rs c){args:JT}{h:JN}{K:AV->JN->Prop}(k:Nat)(ha:args.length<=nt)
  (hw:qV P h.length c (fnM rs h k K) (args++List.replicate (nt-args.length) .undef) (h++List.replicate ns (.emp 0))):z7 P f args h K:=by
 obtain⟨fn,body,js,imp,wks,h1,h2,h3,rfl,rfl,h6,h7⟩:=hf;refine⟨by simp[okF,h1,h2,h3],λw σ xs H hv=> ?_⟩;refine callsIn_of_wp_marks h1 h2 trivial ?_;obtain⟨p1,p2⟩:=H.pushN js.length;have hsr:SR w.heap.size w (σ++List.replicate js.length ⟨none,0,0,0⟩) (args++List.replicate (fn.ntmps-args.length) .undef) (h++List.replicate js.length (.emp 0))
   { tmps:=xs.toArray++Array.replicate (fn.ntmps-xs.toArray.size) Go.undef,defers:= [] }:=by
  refine⟨p1,by simp[hv.1],λi c x hc hx=> ?_,⟨[],rfl,.nil,Nat.le_refl _,by simp⟩⟩;rw[List.getElem?_append]at hc;simp only[Array.getElem?_append]at hx;have hz:xs.toArray.size=args.length:=by simp[hv.1]
  split at hc
  ·rename_i hi;rw[if_pos (by omega)]at hx;exact (hv.2 i c x hc (by simpa using hx)).ext p2
  ·rw[List.getElem?_replicate]at hc;split at hc
   ·cases hc;exact .imm .undef
   ·cases hc
 refine wpIn_mono (iZ (b:=h.length) h7 w.heap.size none _ w _ _ _ _ hw (by simp) hsr) ?_;rintro e a' w' ⟨z,σ',t',hh,he,g1,g2,g3⟩;have key:(∃(j vj sz off len:Nat) (ty:TypeId) (cs:JT) (tl:JN),vp t' hh rs∧gX (je t' hh rs)= .osl j vj sz off len∧hh=h++tl∧h.length<=j∧qu j hh=some (.mem vj ty cs)∧
   (∀c∈cs,qR h.length c=true)∧qG h k=true∧K (.osl k (qo (qu k h)+1) sz off len) (qt k h (.mem (qo (qu k h)+1) ty cs)))->
   LeavesInM Fence.wide 0 P fn a'.tmps (λe w'=> ∃v σ' r h',K r h'∧e= .returned v∧HR w' σ' h'∧VR w' σ' r v∧Ext w σ w' σ') a'.defers .returning w':=by
  rintro⟨j,vj,sz,off,len,ty,cs,tl,k1,k2,rfl,k3,k4,k5,k6,hK⟩;obtain⟨ms,d1,d2,d3,d4⟩:=g1.df;rw[d1];refine yb (N:=w.heap.size) ms w' d2 (λr hr=>⟨(d4 r hr).1,(d4 r hr).2.2.2⟩) (λw1 e1=> ?_);have H1:=g1.hr.dt e1;obtain⟨v,v1,v2⟩:=br (P:=P) H1 g1.sz (λi c x hc hx=>(g1.tm i c x hc hx).dt e1) h6 k1;rw[k2]at v2;have ee:Ext w σ w1 σ':=(p2.trans g2).dt e1;have hkl:k<h.length:=by
   have:=k6
   unfold qG at this;split at this
   ·rename_i hx;exact zh hx
   ·rename_i hx;exact zh hx
   ·rename_i hx;exact zh hx
   ·cases this
  have hkt:qG (h++tl) k=true:=by unfold qG at k6 ⊢;rw[zA hkl];exact k6
  obtain⟨σ2,q1,q2,q3⟩:=H1.move k4 hkt (by omega);have q3':=q3 _ _ _ _ v2;rw[zA hkl]at q1 q3';have eh:qt k (qt j (h++tl) (.emp (vj+1))) (.mem (qo (qu k h)+1) ty cs)=qt k h (.mem (qo (qu k h)+1) ty cs)++qt (j-h.length) tl (.emp (vj+1)):=by
   unfold qt;rw[List.set_append_right _ _ k3,List.set_append_left _ _ hkl]
  rw[eh]at q1;obtain⟨m1,m2⟩:=HR.trunc H (ee.trans q2) q1 qL (λo ho=>by
   rcases jk ho with h1|rfl
   ·exact .inl h1
   ·exact .inr k5)
  refine⟨v,v1,v,_,_,_,hK,rfl,m1,?_,m2⟩;cases q3' with
  |imm h=>cases h
  |osl o ho hs hle hh=>
   refine .osl o ?_ hs hle hh;rw[List.getElem?_take,if_pos hkl];exact ho
 cases e with
 |normal=>cases he;exact key g3
 |ret=>cases he;exact key g3
 |exit id=>cases he;exact g3.elim
 |goto l=>cases he
 |panic c=>cases he
 |outgrown=>cases he
theorem bG{P:Program}{f nt ns:Nat}{rs:List RV}{c:C}(hf:qK P f nt ns rs c){args:JT}{h:JN}{r:AV}{h':JN}(k:Nat)(ha:args.length<=nt)
  (hw:qV P h.length c (fnM rs h k λr1 h1=>r1=r∧h1=h') (args++List.replicate (nt-args.length) .undef) (h++List.replicate ns (.emp 0))):ACalls P f args h r h':=(mA hf k ha hw).calls
end AF
end
section
namespace AF
open Go
section
variable {P : Program} {b : Nat} {r : List RO} {K : Nx} {t : JT} {h : JN} {d : Option Nat} {xs : List X} {j : Nat} {u : Bool}
theorem wg_bslc{i z n:Nat}{ty:TypeId}{zs:JT}{ps:List (Nat×Nat)}:opsA P b (⟨d,some (j,u),.bslc i z n ty zs ps,xs⟩::r) K t h=
  (zx (zG j t)=true∧(qO (zG j t) u=true->flags (evs t xs)∧effE b h (.bslc i z n ty zs ps) (strips (evs t xs)) t d (opsA P b r K))∧(qO (zG j t) u=false->opsA P b r K (qS t d .undef) h)):=by simp only[opsA,stepO,kf,R.kd]
end
attribute [go_sem] wg_bslc
end AF
end
section
namespace AF
open Go
def qv(o:Option AObj)(ver:Nat):Option JT:=
 match o with
 |some (.mem v _ cs)=>if v=ver then some cs else none
 |_=>none
def qH(o:Option AObj)(ver:Nat):Bool:=
 match o with
 |some (.mem v _ _)=>v==ver
 |some (.emp v)=>v==ver
 |_=>false
section
variable {h l : JN} {i j k ver v : Nat} {o o' o'' : AObj} {ty : TypeId} {cs : JT}
theorem zP:cellsOf h k ver=qv (qu k h) ver:=rfl
theorem jp:qF h k ver=qH (qu k h) ver:=rfl
theorem ql:qv (some (.mem v ty cs)) ver=if v=ver then some cs else none:=rfl
theorem wj:qH (some (.mem v ty cs)) ver=(v==ver):=rfl
theorem aZ:qH (some (.emp v)) ver=(v==ver):=rfl
theorem qQ(hne:k≠j):qu k (qt j h o)=qu k h:=by unfold qu qt;rw[List.getElem?_set_ne (λe=>hne e.symm)]
theorem bV(hk:k<h.length):qu k (qt j h o++l)=qu k (qt j h o):=zA (by rw[qL];exact hk)
theorem bW(hk:k<h.length):qu k (qt i (qt j h o) o'++l)=qu k (qt i (qt j h o) o'):=zA (by rw[qL,qL];exact hk)
theorem cz(hk:k<h.length):qt k (qt j h o++l) o'=qt k (qt j h o) o'++l:=zC (by rw[qL];exact hk)
theorem cB(hk:k<h.length):qt k (qt i (qt j h o) o'++l) o''=qt k (qt i (qt j h o) o') o''++l:=zC (by rw[qL,qL];exact hk)
theorem ku(hne:i≠j):qt i (qt j h o) o'=qt j (qt i h o') o:=by unfold qt;rw[List.set_comm _ _ (λe=>hne e.symm)]
end
end AF
end
section
namespace AF
open Go
theorem xf{α β:Type}{f:α->Option β}: ∀ {l:List α} {ys:List β},l.mapM f=some ys->ys.length=l.length∧ ∀(i:Nat) x y,l[i]? =some x->ys[i]? =some y->f x=some y:=by
 intro l
 induction l with
 |nil=>intro ys h;simp at h;subst h;simp
 |cons a l ih=>
  intro ys h;rw[List.mapM_cons]at h;cases ha:f a with
  |none=>simp[ha]at h
  |some b=>
   cases hl:l.mapM f with
   |none=>simp[ha,hl]at h
   |some zs=>
    simp[ha,hl]at h;subst h;obtain⟨h1,h2⟩:=ih hl;refine⟨by simp[h1],λi x y hx hy=> ?_⟩;cases i with
    |zero=>simp at hx hy;subst hx hy;exact ha
    |succ i=>exact h2 i x y (by simpa using hx) (by simpa using hy)
section
variable {H : Type} {enc : TypeId × Value -> H} {P : Program} {w : World} {sp : Nat -> Bool} {held : Bool} {ow : Nat -> Prop}
end
theorem HR.nil(w:World):HR w [] []:=⟨rfl,by simp,by simp,by simp⟩
theorem Bc(b:Nat): ¬own [] b:=λ⟨k,o,h,_⟩=>by simp at h
theorem VRs.nil'{w:World}{σ:List OB}:VRs w σ [] []:=⟨rfl,by simp⟩
theorem VRs.cons'{w:World}{σ:List OB}{a:AV}{v:Value}{as:JT}{vs:List Value}(h:VR w σ a v)(h':VRs w σ as vs):VRs w σ (a::as) (v::vs):=by
 refine⟨by simp[h'.1],λi c x hc hx=> ?_⟩;cases i with
 |zero=>simp at hc hx;subst hc hx;exact h
 |succ i=>exact h'.2 i c x (by simpa using hc) (by simpa using hx)
end AF
end
section
namespace AF
open Go Go.ChangeShapes Go.WideShapes Go.ChangeAt Go.RowKit
section
variable {H : Type} {enc : TypeId × Value -> H} {P : Program} {W W' : World}
theorem fE(hl:laidOutB P=true)(hb:Below W.heap.size W W'): ∀ {ts:List TypeId} {vs:List Value} {ds:List (DataW H)} {ps:List MemPlace},(∀t∈ts,P.readableRec t=true∧t<P.types.size)->
  (∀x∈ps,x.block<W.heap.size)->DataW.TrodAll enc P W 0 (λ_=>true) true ts vs ds ps->DataW.TrodAll enc P W' 0 (λb=>decide (b<W.heap.size)) true ts vs ds ps:=by
 intro ts
 induction ts with
 |nil=>
  intro vs ds ps _ _ h
  match vs,ds,h with
  | [],[],h=>exact h
 |cons t ts ih=>
  intro vs ds ps ht hp h
  match vs,ds,h with
  |v::vs,d::ds,⟨p,q,h1,h2,e⟩=>
   subst e;refine⟨p,q,?_,?_,rfl⟩
   ·exact Below.trod hl (ht t (by simp)).1 (ht t (by simp)).2 h1 hb (λx hx=>hp x (by simp[hx]))
   ·exact ih (λu hu=>ht u (by simp[hu])) (λx hx=>hp x (by simp[hx])) h2
theorem KH{f:Func}{s:ChangeSpec}{args:Array Value}{ds:List (DataW H)}{before:List MemPlace}{tb:TypeId}(hl:laidOutB P=true)(hv:s.vars= [])(hfn:s.fn H ds= { results:= [.lit (.bool true)],args:=ds })
  (hrt:f.resultTypes= #[tb]) (htb:P.underlying tb=some .bool) (hro: ∀t∈f.params.toList,P.readableRec t=true∧t<P.types.size)
  (hW:DataW.Whole enc P f.params.toList s.vars false W args.toList ds [] before) (hA:DataW.TrodAll enc P W 0 (λ_=>true) true f.params.toList args.toList ds before) (hb:Below W.heap.size W W'):
  s.post enc P f false true false false W args (.bool true) W':=by
 have hlt: ∀x∈before,x.block<W.heap.size:=λx hx=>hW.lt x hx
 refine⟨ds,[],before,[],before,[],hW,?_,?_,?_,?_,λh=>by cases h⟩
 ·rw[List.append_nil,hfn,hrt];exact⟨[],[],shut_bool htb true,rfl,rfl⟩
 ·rw[List.append_nil,hfn];exact fE hl hb hro hlt hA
 ·rw[List.append_nil,hfn,hv];rfl
 ·exact World.keptBut_mono (λx hx=>⟨hx,.inr (.inl hx)⟩) (hb.frame (· ∈before))
end
end AF
end
section
namespace AF
open Go
def Wn(P:Program):Nat->List Field->Option Nat
 |n,[]=>some n
 |n,f::r=>if f.offset=n then Wn P (n+P.cellsOf f.type) r else none
def yd(P:Program):Nat->TypeId->Bool
 |0,_=>false
 |d+1,t=>match P.underlying t with
  |some .bool=>decide (P.cellsOf t=1)
  |some (.int _)=>decide (P.cellsOf t=1)
  |some .string=>decide (P.cellsOf t=1)
  |some (.slice e)=>decide (P.cellsOf t=1)&&(decide (0<P.cellsOf e)&&yd P d e)
  |some (.struct fs)=>decide (Wn P 0 fs.toList=some (P.cellsOf t))&&fs.toList.all λf=>yd P d f.type
  |_=>false
def jI(P:Program):Nat->TypeId->JT->Prop
 |0,_,_=>False
 |d+1,t,as=>match P.underlying t with
  |some .bool=> ∃b,as= [.bool b]
  |some (.int k)=> ∃n,as= [.int k n]∧(Lit.int k n).wf=true
  |some .string=> ∃s:List UInt8,as= [.str s]∧s.length<=maxLen
  |some (.slice e)=> ∃(n:Nat) (f:Nat->JT),as= [.sl n f]∧n<=maxLen∧ ∀i,i<n->jI P d e (f i)
  |some (.struct fs)=>as.length=P.cellsOf t∧ ∀f∈fs.toList,jI P d f.type ((as.drop f.offset).take (P.cellsOf f.type))
  |_=>False
section
variable {H : Type} {enc : TypeId × Value -> H} {P : Program} {w : World} {held : Bool} {ow : Nat -> Prop}
structure vK (w:World) (ow:Nat->Prop) (as:JT) (cs:List Value):Prop where
 len:cs.length=as.length
 one: ∀(i:Nat) v,cs[i]? =some v->v.oneCell'=true
 vi: ∀(i:Nat) c v,as[i]? =some c->cs[i]? =some v->VI w ow c v
theorem vK.single{a:AV}{v:Value}(h1:v.oneCell'=true)(h2:VI w ow a v):vK w ow [a] [v]:=by
 refine⟨rfl,λi x hx=> ?_,λi c x hc hx=> ?_⟩
 ·cases i<;>simp at hx;subst hx;exact h1
 ·cases i<;>simp at hx hc;subst hx hc;exact h2
theorem vK.append{as bs:JT}{cs ds:List Value}(h:vK w ow as cs)(h':vK w ow bs ds):vK w ow (as++bs) (cs++ds):=by
 have hl:=h.len;refine⟨by simp[hl,h'.len],λi v hv=> ?_,λi c v hc hv=> ?_⟩
 ·rw[List.getElem?_append]at hv;split at hv
  ·exact h.one i v hv
  ·exact h'.one _ v hv
 ·rw[List.getElem?_append]at hc hv;split at hv
  ·rename_i hi;rw[if_pos (by omega)]at hc;exact h.vi i c v hc hv
  ·rename_i hi;rw[if_neg (by omega),<-hl]at hc;exact h'.vi _ c v hc hv
theorem gv{d fuel:Nat}(ih: ∀(t:TypeId) (cs:List Value) (dd:DataW H) (ps:List MemPlace),yd P d t=true->DataW.trod enc P w 0 (λ_=>true) held fuel t cs=some (dd,ps)-> ∃as,jI P d t as∧as.length=P.cellsOf t∧vK w ow as cs){cs:List Value}:
  ∀(fs:List Field) (n m:Nat) (xs:List (DataW H×List MemPlace)),Wn P n fs=some m->(∀f∈fs,yd P d f.type=true)->m<=cs.length->
   fs.mapM (λf=>DataW.trod enc P w 0 (λ_=>true) held fuel f.type ((cs.drop f.offset).take (P.cellsOf f.type)))=some xs->
   n<=m∧ ∃as,(∀f∈fs,n<=f.offset∧jI P d f.type ((as.drop (f.offset-n)).take (P.cellsOf f.type)))∧as.length=m-n∧vK w ow as ((cs.drop n).take (m-n)):=by
 intro fs
 induction fs with
 |nil=>
  intro n m xs ht _ hm _;cases ht;exact⟨Nat.le_refl _,[],by simp,by simp,⟨by simp,by simp,by simp⟩⟩
 |cons f r ihr=>
  intro n m xs ht hk hm hx;simp only[Wn]at ht;split at ht
  ·rename_i hoff;rw[List.mapM_cons]at hx;cases ha:DataW.trod enc P w 0 (λ_=>true) held fuel f.type ((cs.drop f.offset).take (P.cellsOf f.type))with
   |none=>simp[ha]at hx
   |some y=>
    cases hl:r.mapM (λf=>DataW.trod enc P w 0 (λ_=>true) held fuel f.type ((cs.drop f.offset).take (P.cellsOf f.type)))with
    |none=>simp[ha,hl]at hx
    |some zs=>
     obtain⟨g0,as1,g1,g2,g3⟩:=ihr (n+P.cellsOf f.type) m zs ht (λg hg=>hk g (by simp[hg])) hm hl;obtain⟨as0,k1,k2,k3⟩:=ih f.type _ y.1 y.2 (hk f (by simp)) (by rw[ha]);rw[hoff]at k3;refine⟨by omega,as0++as1,λg hg=> ?_,by rw[List.length_append,k2,g2];omega,?_⟩
     ·rcases List.mem_cons.1 hg with rfl|hg
      ·refine⟨by omega,?_⟩;rw[hoff,Nat.sub_self,List.drop_zero,List.take_append_of_le_length (by omega),List.take_of_length_le (by omega)];exact k1
      ·obtain⟨q1,q2⟩:=g1 g hg;refine⟨by omega,?_⟩;rw[List.drop_append,List.drop_of_length_le (by omega),List.nil_append,show g.offset-n-as0.length=g.offset-(n+P.cellsOf f.type) by omega];exact q2
     ·have e:(cs.drop n).take (m-n)=(cs.drop n).take (P.cellsOf f.type)++(cs.drop (n+P.cellsOf f.type)).take (m-(n+P.cellsOf f.type)):=by
       rw[show m-n=P.cellsOf f.type+(m-(n+P.cellsOf f.type)) by omega,List.take_add,List.drop_drop]
      rw[e];exact k3.append g3
  ·cases ht
theorem QK{a:Addr}{v:Value}(h:w.cell? a=some v): ∃b off,a=⟨b,off,none⟩∧b<w.heap.size:=by
 obtain⟨b,off,spot⟩:=a;unfold World.cell? at h;split at h
 ·rename_i c e f hb;split at h
  ·cases h
  ·rename_i hs;cases spot with
   |some _=>simp at hs
   |none=>exact⟨b,off,rfl,(Array.getElem?_eq_some_iff.1 hb).1⟩
 ·cases h
theorem sD(how: ∀b,¬ow b): ∀(d fuel:Nat) (t:TypeId) (cs:List Value) (dd:DataW H) (ps:List MemPlace),yd P d t=true->DataW.trod enc P w 0 (λ_=>true) held fuel t cs=some (dd,ps)->
  ∃as,jI P d t as∧as.length=P.cellsOf t∧vK w ow as cs:=by
 intro d
 induction d with
 |zero=>intro fuel t cs dd ps hk;cases hk
 |succ d ih=>
  intro fuel t cs dd ps hk h;unfold yd at hk;unfold jI;split at hk
  ·rename_i ht;have hc:=of_decide_eq_true hk;obtain⟨b,rfl,_⟩:=DataW.trod_bool ht h;exact⟨[.bool b],⟨b,rfl⟩,hc.symm,vK.single rfl .bool⟩
  ·rename_i k ht;have hc:=of_decide_eq_true hk;obtain⟨n,rfl,_,hw⟩:=DataW.trod_int ht h;exact⟨[.int k n],⟨n,rfl,hw⟩,hc.symm,vK.single rfl .int⟩
  ·rename_i ht;have hc:=of_decide_eq_true hk;obtain⟨s,rfl,_,hw⟩:=DataW.trod_string ht h;have hsz:s.data.toList.length<=maxLen:=by rw[Array.length_toList];exact hw
   exact⟨[.str s.data.toList],⟨_,rfl,hsz⟩,hc.symm,vK.single rfl (by have:= @VI.str w ow s.data.toList;rw[Array.toArray_toList]at this;exact this)⟩
  ·rename_i e ht;simp only[Bool.and_eq_true,decide_eq_true_eq]at hk;obtain⟨hc,hpos,hk⟩:=hk;cases fuel with
   |zero=>simp[DataW.trod]at h
   |succ fuel=>
    have hcs:(cs= [.slice none 0 0])∨ ∃a len cap,cs= [.slice (some a) len cap]:=by
     unfold DataW.trod at h;rw[ht]at h;split at h<;>first|(rename_i g _;cases g;done)|skip
     all_goals first|(rename_i g;cases g;done)|skip
     all_goals first|exact .inl rfl|exact .inr ⟨_,_,_,rfl⟩|(cases h;done)
    rcases hcs with rfl|⟨a,len,cap,rfl⟩
    ·exact⟨[.sl 0 λ_=> []],⟨0,λ_=> [],rfl,Nat.zero_le _,λi hi=>absurd hi (Nat.not_lt_zero _)⟩,hc.symm,vK.single rfl .nilsl⟩
    ·simp only[DataW.trod,ht]at h;split at h
     ·rename_i hcc;obtain⟨_,c1,c2⟩:=hcc;rw[Option.bind_eq_some_iff]at h;obtain⟨elems,hm,hrest⟩:=h;rw[Option.map_eq_some_iff]at hrest;obtain⟨rest,hrest,_⟩:=hrest
      try simp only[if_true]at hrest
      obtain⟨m1,m2⟩:=xf hm;obtain⟨r1,r2⟩:=xf hrest;simp only[List.length_range]at m1 r1;have all: ∀i,i<cap-> ∃x,((w.cells? 0 (a.add (i*P.cellsOf e)) (P.cellsOf e)).bind (DataW.trod enc P w 0 (λ_=>true) held fuel e))=some x:=by
       intro i hi
       by_cases hl:i<len
       ·exact⟨_,m2 i i _ (by simp[hl]) (List.getElem?_eq_getElem (by omega))⟩
       ·have:=r2 (i-len) (i-len) _ (by rw[List.getElem?_range (by omega)]) (List.getElem?_eq_getElem (by omega))
        rw[show len+(i-len)=i by omega]at this;exact⟨_,this⟩
      by_cases hcap:cap=0
      ·subst hcap
       have:len=0:=by omega
       subst this;exact⟨[.sl 0 λ_=> []],⟨0,λ_=> [],rfl,Nat.zero_le _,λi hi=>absurd hi (Nat.not_lt_zero _)⟩,hc.symm,vK.single rfl .nilsl⟩
      ·obtain⟨x0,h0⟩:=all 0 (by omega);rw[Option.bind_eq_some_iff]at h0;obtain⟨cs0,h0,_⟩:=h0;rw[Nat.zero_mul]at h0;have hadd0:a.add 0=a:=by simp[Addr.add]
       rw[hadd0]at h0;unfold World.cells? at h0;rw[if_pos (Nat.zero_le _)]at h0;obtain⟨n1,n2⟩:=xf h0;simp only[List.length_range]at n1;have hcell:=n2 0 0 _ (by simp[hpos]) (List.getElem?_eq_getElem (show 0<cs0.length by omega));rw[hadd0]at hcell;obtain⟨b,off,rfl,hlt⟩:=QK hcell;have hadd: ∀n,(⟨b,off,none⟩:Addr).add n=⟨b,off+n,none⟩:=by
        intro n;unfold Addr.add;split
        ·rename_i h;subst h;rfl
        ·rfl
       have hadd2: ∀n m,(⟨b,off+n,none⟩:Addr).add m=⟨b,off+n+m,none⟩:=by
        intro n m;unfold Addr.add;split
        ·rename_i h;subst h;rfl
        ·rfl
       have key: ∀i,i<len-> ∃(as:JT) (cs:List Value),jI P d e as∧as.length=P.cellsOf e∧vK w ow as cs∧(∀(j:Nat) v,cs[j]? =some v->w.cell? ⟨b,off+i*P.cellsOf e+j,none⟩=some v):=by
        intro i hi;obtain⟨x,hx⟩:=all i (by omega);rw[Option.bind_eq_some_iff]at hx;obtain⟨cs,h3,h4⟩:=hx;obtain⟨as,f1,f2,f3⟩:=ih fuel e cs x.1 x.2 hk h4;rw[hadd]at h3;unfold World.cells? at h3;rw[if_pos (Nat.zero_le _)]at h3;obtain⟨n1,n2⟩:=xf h3;simp only[List.length_range]at n1;refine⟨as,cs,f1,f2,f3,λj v hj=> ?_⟩;have hjl:j<P.cellsOf e:=by have:=(List.getElem?_eq_some_iff.1 hj).1;omega
        have:=n2 j j v (by simp[hjl]) hj
        rw[hadd2]at this;exact this
       have ex: ∃g:Nat->JT×List Value,∀i,i<len->jI P d e (g i).1∧(g i).1.length=P.cellsOf e∧vK w ow (g i).1 (g i).2∧(∀(j:Nat) v,(g i).2[j]? =some v->w.cell? ⟨b,off+i*P.cellsOf e+j,none⟩=some v):=by
        refine⟨λi=>if hi:i<len then ((key i hi).choose,(key i hi).choose_spec.choose) else ([],[]),λi hi=> ?_⟩;simp only[dif_pos hi];exact (key i hi).choose_spec.choose_spec
       obtain⟨g,hg⟩:=ex;refine⟨[.sl len λi=>(g i).1],⟨len,λi=>(g i).1,rfl,Nat.le_trans c1 c2,λi hi=>(hg i hi).1⟩,hc.symm,vK.single rfl (.sl (P.cellsOf e) b off cap (λi j=>(g i).2.getD j Go.undef) c1 c2 (λ_=>how b) hlt (λi hi=>(hg i hi).2.1) (λi j hi hj=> ?_) (λi j hi hj=> ?_) (λi j c hi hc=> ?_))⟩
       ·obtain⟨_,q2,q3,q4⟩:=hg i hi;have hl:=q3.len;have e:(g i).2[j]? =some (g i).2[j]:=List.getElem?_eq_getElem (by omega);rw[q4 j _ e,List.getD_eq_getElem?_getD,e];rfl
       ·obtain⟨_,q2,q3,q4⟩:=hg i hi;have hl:=q3.len;have e:(g i).2[j]? =some (g i).2[j]:=List.getElem?_eq_getElem (by omega);rw[List.getD_eq_getElem?_getD,e];exact q3.one j _ e
       ·obtain⟨_,q2,q3,q4⟩:=hg i hi;have hl:=q3.len;have hj:=(List.getElem?_eq_some_iff.1 hc).1;have e:(g i).2[j]? =some (g i).2[j]:=List.getElem?_eq_getElem (by omega);rw[List.getD_eq_getElem?_getD,e];exact q3.vi j c _ hc e
     ·cases h
  ·rename_i fs ht;simp only[Bool.and_eq_true,decide_eq_true_eq,List.all_eq_true]at hk;obtain⟨htile,hk⟩:=hk;cases fuel with
   |zero=>simp[DataW.trod]at h
   |succ fuel=>
    simp only[DataW.trod,ht]at h;split at h
    ·rename_i hcl;rw[Option.map_eq_some_iff]at h;obtain⟨xs,hm,_⟩:=h;obtain⟨_,as,g1,g2,g3⟩:=gv (λt cs dd ps=>ih fuel t cs dd ps) fs.toList 0 (P.cellsOf t) xs htile hk (by omega) hm;rw[Nat.sub_zero]at g2 g3;rw[List.drop_zero,List.take_of_length_le (by omega)]at g3;exact⟨as,⟨g2,λf hf=>by have:=(g1 f hf).2;rwa [Nat.sub_zero]at this⟩,g2,g3⟩
    ·cases h
  ·cases hk
theorem VC(how: ∀b,¬ow b){d:Nat}{t:TypeId}{cs:Array Value}{dd:DataW H}{ps:List MemPlace}(hk:yd P d t=true)(h:DataW.Trod enc P w 0 (λ_=>true) held t (.agg cs) dd ps): ∃as,jI P d t as∧VI w ow (.agg as) (.agg cs):=by
 obtain⟨fuel,h⟩:=h;obtain⟨as,g1,g2,g3⟩:=sD how d fuel t _ dd ps hk h;refine⟨as,g1,.agg ?_ (λi x hx=>g3.one i x ?_) (λi c x hc hx=>g3.vi i c x hc ?_)⟩
 ·have:=g3.len;simpa[Value.cells] using this
 ·simpa[Value.cells] using hx
 ·simpa[Value.cells] using hx
end
end AF
end
section
namespace AF
open Go
def ze(v:Nat)(ty:TypeId)(cs:JT):AObj:=if cs= [] then .emp v else .mem v ty cs
section
variable {h l : JN} {k v w n c : Nat} {ty : TypeId} {cs ms : JT} {a : AV} {o : AObj}
theorem vB(h:cs≠ []):ze v ty cs= .mem v ty cs:=if_neg h
theorem verOf_own:qo (some (ze v ty cs))=v:=by unfold ze;split<;>rfl
theorem site_own0:qG (ze v ty cs::l) 0=true:=by unfold ze;split<;>rfl
theorem liveS_own0:qF (ze v ty cs::l) 0 w=(v==w):=by unfold ze;split<;>rfl
theorem tyOk_own:pa (some (ze v ty cs)) ty=true:=by
 unfold ze;split
 ·rfl
 ·simp[pa]
theorem cells_own0:((cellsOf (ze v ty cs::l) 0 v).getD [])=cs:=by
 unfold ze;split
 ·rename_i e;rw[e];rfl
 ·rw[cellsOf_0,if_pos rfl];rfl
theorem cellsS_own0:((cellsOf (ze v ty cs::l) 0 v).isSome=true)=(cs≠ []):=by
 unfold ze;split
 ·rename_i e;rw[e];simp[cellsOf,qu]
 ·rename_i e;rw[cellsOf_0,if_pos rfl];simp[e]
theorem ZT{b:AV}:iO (some (ze v ty cs)) ty w c (n+1) (b::ms)=ze (w+1) ty (cs.take c++b::ms):=by
 rw[show ze (w+1) ty (cs.take c++b::ms)= .mem (w+1) ty (cs.take c++b::ms)from vB (by simp)];unfold ze;split
 ·rename_i e;rw[e];simp[iO]
 ·rfl
theorem appO_own1{b:AV}:iO (some (ze v ty cs)) ty w c 1 (b::ms)=ze (w+1) ty (cs.take c++b::ms):=ZT (n:=0)
end
attribute [go_sem] verOf_own site_own0 liveS_own0 tyOk_own cells_own0 cellsS_own0 appO_own1
end AF
end
section
namespace AF
open Go
def LowI(h hh:JN):Prop:=hh.length=h.length∧ ∀o∈hh,o∈h∨(lowO h.length o∧lowO (h.length+1) o)
theorem LowI.refl(h:JN):LowI h h:=⟨rfl,λ_ ho=> .inl ho⟩
theorem ko{hh tl:JN}{o:AObj}{k:Nat}(h:hh.length=k):qu k (hh++o::tl)=some o:=by subst h;exact getO_app0
theorem yh{hh tl:JN}{o o':AObj}{k:Nat}(h:hh.length=k):qt k (hh++o::tl) o'=hh++o'::tl:=by subst h;exact setO_app0
def pd(P:Program)(f:FuncId)(cap:JT)(xs:List JT):Prop:=
 ∀(h:JN) (ts:JT) (L:LInfo) (S:Nat->JN->Prop) (E:LS->JN->Prop),
  (∀i hh,S i hh->LowI h hh)->(∀s hh,E s hh->LowI h hh)->
  (∀i hh tl,(hi:i<xs.length)->S i hh->jQ P h.length (xs[i]) (hh++ .lp .ready ts L::tl) (λr h'=> ∃hh',(r= .bool true∧S (i+1) hh'∧h'=hh'++ .lp .ready ts L::tl)∨(∃s,r= .bool false∧E s hh'∧h'=hh'++ .lp s ts L::tl)))->
  S 0 h->(∀c∈ts,qR (h.length+1) c=true)->
  z7 P f (.yld h.length::cap) (h++ [.lp .ready ts L]) (λ_ h'=> ∃hh,(S xs.length hh∧h'=hh++ [.lp .ready ts L])∨ ∃s,E s hh∧h'=hh++ [.lp s ts L])
theorem nL{P:Program}{f:FuncId}{cap:JT}{xs:List JT}(hf:pd P f cap xs){ps:List Nat}{b:Nat}{x y:C}{Q:Ex->Nx}{ts:JT}{h:JN}(hps: ∀a∈xs,a.length=ps.length)
  (S:Nat->JN->Prop) (E:Ex->JN->Prop) (hS: ∀i hh,S i hh->LowI h hh) (hE: ∀s hh,E s hh->LowI h hh)
  (start:S 0 h) (hts: ∀c∈ts,qR (h.length+1) c=true)
  (body: ∀i hh tl L,(hi:i<xs.length)->S i hh->hh.length=h.length->
   qV P b x (λe t2 h2=>e= .normal∧h2=hh++ .lp .ready ts L::tl∧
    qV P b y (λe t3 h3=> ∃hh',h3=hh'++ .lp .busy ts L::tl∧hh'.length=h.length∧match e with
     | .normal=>S (i+1) hh'
     | .ret=>E .ret hh'
     | .exit id=>E (.exit id) hh') t2 (hh++ .lp .busy ts L::tl)) (ke ts ps (xs[i])) (hh++ .lp .ready ts L::tl))
  (done: ∀hh,S xs.length hh->Q .normal ts hh) (doneE: ∀e hh,E e hh->match e with
   | .normal=>False
   |e=>Q e ts hh):
  fe P (.fn (.func f) [] cap) ps (qV P b x) (qV P b y) Q ts h:=by
 intro L hy;show z7 _ _ _ _ _;have key:=hf h ts L S (λs hh=>match s with
  | .ret=>E .ret hh
  | .exit id=>E (.exit id) hh
  |_=>False) hS
  (by
   intro s hh hs;cases s with
   |ret=>exact hE _ _ hs
   |exit id=>exact hE _ _ hs
   |ready=>exact hs.elim
   |busy=>exact hs.elim)
  (by
   intro i hh tl hi i4;have hlen:=(hS _ _ i4).1;refine hy h.length ts _ _ _ (ko hlen) (hps _ (List.getElem_mem hi)) ?_;have hb:=body i hh tl L hi i4 hlen;refine wa ?_ hb;rintro e t2 h2 ⟨rfl,rfl,h3⟩;refine⟨rfl,⟨ts,ko hlen⟩,λts' hts'=> ?_⟩;rw[ko hlen]at hts';cases hts';rw[yh hlen];refine wa ?_ h3;rintro e t3 h3' ⟨hh',rfl,g1,g2⟩;refine⟨ts,ko g1,?_⟩;cases e with
   |normal=>exact⟨hh',.inl ⟨rfl,g2,yh g1⟩⟩
   |ret=>exact⟨hh',.inr ⟨.ret,rfl,g2,yh g1⟩⟩
   |exit id=>exact⟨hh',.inr ⟨.exit id,rfl,g2,yh g1⟩⟩)
  start hts
 refine key.le (wO.refl _) ?_;rintro v h' ⟨hh,⟨g1,rfl⟩|⟨s,g1,rfl⟩⟩
 ·have hl:=hS _ _ g1;exact⟨v,VLe.refl _,hh,.ready,ts,L,rfl,hl.1,λo ho=>(hl.2 o ho).imp (λh=>h) And.left,done hh g1⟩
 ·cases s with
  |ready=>exact g1.elim
  |busy=>exact g1.elim
  |ret=>
   have hl:=hE _ _ g1;exact⟨v,VLe.refl _,hh,.ret,ts,L,rfl,hl.1,λo ho=>(hl.2 o ho).imp (λh=>h) And.left,doneE _ _ g1⟩
  |exit id=>
   have hl:=hE _ _ g1;exact⟨v,VLe.refl _,hh,.exit id,ts,L,rfl,hl.1,λo ho=>(hl.2 o ho).imp (λh=>h) And.left,doneE _ _ g1⟩
theorem lr{rs:List RV}{h0 h':JN}{K:AV->JN->Prop}{t:JT}{r:AV}(hok:vp t h' rs)(hl:h'.length=h0.length)(hlow: ∀o∈h',o∈h0∨lowO h0.length o)(hK:K r h')
  (hv:VLe (frz (λk=>decide (h0.length<=k)) h' 8 (gX (je t h' rs))) r):fnQ rs h0 K .ret t h':=
 ⟨r,h',hK,hok,⟨[],(List.append_nil _).symm⟩,hl,hlow,VOut.of 8 hv⟩
theorem jA{rs:List RV}{h0 h':JN}{K:AV->JN->Prop}{t:JT}{r:AV}(hok:vp t h' rs)(hl:h'.length=h0.length)(hlow: ∀o∈h',o∈h0∨lowO h0.length o)(hK:K r h')
  (hv:VLe (frz (λk=>decide (h0.length<=k)) h' 8 (gX (je t h' rs))) r):fnQ rs h0 K .normal t h':=
 ⟨r,h',hK,hok,⟨[],(List.append_nil _).symm⟩,hl,hlow,VOut.of 8 hv⟩
end AF
end
section
namespace AF
open Go
section
variable {P : Program} {b : Nat} {r : List RO} {K : Nx} {t : JT} {h : JN} {xs : List X}
theorem PM{d:Nat}:opsA P b (⟨some d,none,.b2s,xs⟩::r) K t h=(flags (evs t xs)∧okL h .b2s (strips (evs t xs))∧opsA P b r K (jj d t (valL h .b2s (strips (evs t xs)))) h):=by simp only[opsA,stepO,stepA,R.kd,qS]
theorem PU{d:Option Nat}:opsA P b (⟨d,none,.s2b,xs⟩::r) K t h=(flags (evs t xs)∧effE b h .s2b (strips (evs t xs)) t d (opsA P b r K)):=by simp only[opsA,stepO,stepA,R.kd]
theorem N6{nx:JT->JN->Prop}{d:Option Nat}{s:List UInt8}:effE b h .s2b [.str s] t d nx=((s.length:Int)<=140737488355328∧nx (qS t d (.sl s.length λi=> [.int .u8 ((s.getD i 0).toNat:Int)])) h):=(rfl)
end
theorem w_gix{P:Program}{b:Nat}{r:List RO}{K:Nx}{t:JT}{h:JN}{xs:List X}{d:Option Nat}{g n sz:Nat}:opsA P b (⟨d,none,.gix g n sz,xs⟩::r) K t h=(flags (evs t xs)∧effE b h (.gix g n sz) (strips (evs t xs)) t d (opsA P b r K)):=by simp only[opsA,stepO,stepA,R.kd]
attribute [go_sem] w_gix
theorem Xt{b:Nat}{t:JT}{h:JN}{nx:JT->JN->Prop}{d:Option Nat}{g n sz:Nat}{k:IntKind}{i:Int}{cs:JT}(hg:jb h g cs)(h0:0<=i∧i<n)(h2:cs.length=n*sz)(hn:nx (qS t d (.ip ((cs.drop (i.toNat*sz)).take sz))) h):
  effE b h (.gix g n sz) [.int k i] t d nx:=⟨cs,hg,h0,h2,hn⟩
theorem jb.app{h l:JN}{g:Nat}{cs:JT}(hg:jb h g cs):jb (h++l) g cs:=by
 obtain⟨k,bs,G,h1,h2⟩:=hg;exact⟨k,bs,G,by rw[List.getElem?_append_left (List.getElem?_eq_some_iff.1 h1).1];exact h1,h2⟩
theorem dK(c:UInt8):wT (.int .u8 (c.toNat:Int))=c:=by simp[wT]
theorem eK(c:UInt8):aY (.int .u8 (c.toNat:Int)):=by
 have:=c.toNat_lt
 exact⟨by omega,by omega⟩
theorem jx(s:List UInt8):(zE s).length=s.length:=by simp[zE]
theorem iF{g:JN}:valL g .b2s [.nl]= .str []:=rfl
theorem nF{g:JN}:okL g .b2s [.nl]=True:=rfl
theorem fF{g:JN}{k v z p n:Nat}:valL g .b2s [.osl k v z p n]= .str (((((cellsOf g k v).getD []).drop p).take n).map wT):=rfl
theorem gQ{g:JN}{k v z p n:Nat}:okL g .b2s [.osl k v z p n]=(qF g k v=true∧z=1∧p+n<=((cellsOf g k v).getD []).length∧ ∀c∈((((cellsOf g k v).getD []).drop p).take n),aY c):=rfl
theorem Bh{x:AV}{q:Bool}:j0 (.bool false) x (.bool q)= .bool q:=by
 unfold j0;simp only[AV.strip,wS];split
 ·rename_i p' q' h1 h2;cases h2;simp
 ·simp
theorem Bi{y:AV}{p:Bool}:j0 (.bool true) (.bool p) y= .bool p:=by
 unfold j0;simp only[AV.strip,wS];split
 ·rename_i p' q' h1 h2;cases h1;simp
 ·simp
attribute [go_sem] Bh Bi
theorem rK{P:Program}{f:FuncId}{first cap args:JT}{d:Option Nat}{nx:Nx}{t:JT}{h:JN}{R:AV->JN->Prop}(hc:z7 P f (first++args++cap) h R)(hn: ∀v h',R v h'->nx (qS t d v) h'):wU P (.fn (.func f) first cap::args) d nx t h:=⟨R,hc,hn⟩
theorem qz{P:Program}{f:Nat}{first cap args:JT}{d:Option Nat}{nx:Nx}{t:JT}{h:JN}{v:AV}(hc:ACalls P f (first++args++cap) h v h)(hn:nx (qS t d v) h):wU P (.fn (.func f) first cap::args) d nx t h:=⟨_,hc.toQ,by rintro _ _ ⟨rfl,rfl⟩;exact hn⟩
attribute [go_sem] PM PU N6 iF nF fF gQ
end AF
end
section
namespace AF
open Go
section
variable {P : Program} {b : Nat} {r : List RO} {K : Nx} {t : JT} {h : JN} {xs : List X}
end
theorem valL_capnl{g:JN}:valL g .cap [.nl]= .int .i64 0:=rfl
theorem ud{g:JN}:okL g .cap [.nl]=True:=rfl
theorem oQ{g:JN}{z:Nat}{lo hi:Bool}{bs:JT}:valL g (.slc z lo hi) (.nl::bs)= .nl:=rfl
attribute [go_sem] valL_capnl ud oQ
end AF
end
section
namespace AF
open Go
section
variable {P : Program} {b : Nat} {K : Nx} {t : JT} {h : JN}
theorem t_nil:yp P b .nil K t h=K t h:=(rfl)
theorem t_one{o:RO}{r:DT}:yp P b (.one o r) K t h=opsA P b [o] (yp P b r K) t h:=(rfl)
theorem t_two{x y:DT}:yp P b (.two x y) K t h=(yp P b x K t h∧yp P b y K t h):=(rfl)
theorem t_univ{r:DT}{d:Option Nat}{xs:List X}:yp P b (.uni ⟨d,none,.callv,xs⟩ r) K t h=rI P (evs t xs) d (yp P b r K) t h:=(rfl)
theorem rJ{f:Nat}{first cap args:JT}{d:Option Nat}{nx:Nx}{v:AV}(hc:ACalls P f (first++strips args++cap) h v h)(hf:flags (.fn (.func f) first cap::args))(hn:nx (qS t d v) h):rI P (.fn (.func f) first cap::args) d nx t h:=⟨hf,v,hc,hn⟩
theorem t_uni{r:DT}{d:Option Nat}{f:Nat}{p:Bool}{xs:List X}:yp P b (.uni ⟨d,none,.call f p,xs⟩ r) K t h=Jc P f (evs t xs) d (yp P b r K) t h:=(rfl)
theorem jX{d:DT}{Q:Ex->Nx}(T:JT)(H:JN)(h1:yp P b d (λt' h'=>t'=T∧h'=H) t h)(h2:Q .normal T H):qV P b (.draw d) Q t h:=
 ⟨_,h1,λt' h' ⟨e1,e2⟩=>by subst e1;subst e2;exact h2⟩
theorem Jd{f:Nat}{vs:JT}{d:Option Nat}{nx:Nx}{r:AV}(hc: ∀h0,ACalls P f (strips vs) h0 r h0)(hf:flags vs)(hn:nx (qS t d r) h):Jc P f vs d nx t h:=⟨hf,r,hc,hn⟩
end
attribute [go_sem] t_univ t_nil t_one t_two t_uni
end AF
end
section
namespace AF
open Go
section
variable {P : Program} {b : Nat} {r : List RO} {K : Nx} {t : JT} {h l : JN} {xs : List X} {ks : AK} {ok : Bool} {z : AV} {d : Option Nat} {nx : JT -> JN -> Prop}
theorem w_cpy{sz:Nat}:opsA P b (⟨d,none,.cpy sz,xs⟩::r) K t h=(flags (evs t xs)∧effE b h (.cpy sz) (strips (evs t xs)) t d (opsA P b r K)):=by simp only[opsA,stepO,stepA,R.kd]
theorem e_cpy{sz sz' k ver off m:Nat}{y:AV}:effE b h (.cpy sz) [.osl k ver sz' off m,y] t d nx=((qF h k ver=true∧(cellsOf h k ver).isSome=true∧sz'=sz∧off+m*sz<=((cellsOf h k ver).getD []).length∧(qk h y).isSome=true∧((qk h y).getD (0,[])).2.length=((qk h y).getD (0,[])).1*sz)∧
  nx (qS t d (.int .i64 ((min ((qk h y).getD (0,[])).1 m:Nat):Int))) (qt k h (.mem ver (ZK (qu k h)) (((cellsOf h k ver).getD []).take off++((qk h y).getD (0,[])).2.take (min ((qk h y).getD (0,[])).1 m*sz)++((cellsOf h k ver).getD []).drop (off+min ((qk h y).getD (0,[])).1 m*sz))))):=(rfl)
end
section
variable {h l : JN} {ks : AK} {ok : Bool} {z x : AV} {k ver n v w : Nat} {es : List (AV × AV)} {o : AObj}
theorem strip_mp:(AV.mp k v).strip=AV.mp k v:=rfl
theorem flag_mp:(AV.mp k v).flag=true:=rfl
theorem solid_mp:(AV.mp k v).solid=true:=rfl
theorem cells_mp:(AV.mp k v).cells= [AV.mp k v]:=rfl
theorem frz_mp{fz:Nat->Bool}:frz fz h (n+1) (.mp k v)=if fz k then .undef else .mp k v:=rfl
end
attribute [go_sem] w_cpy e_cpy strip_mp flag_mp solid_mp cells_mp frz_mp
section
variable {P : Program} {b : Nat} {r : List RO} {K : Nx} {t : JT} {h : JN} {xs : List X} {d : Nat}
theorem LY{z:Nat}:opsA P b (⟨some d,none,.idxI z,xs⟩::r) K t h=(flags (evs t xs)∧okP (.idxI z) (strips (evs t xs))∧opsA P b r K (jj d t (valP (.idxI z) (strips (evs t xs)))) h):=by simp only[opsA,stepO,stepA,R.kd,qS]
theorem LW{z:Nat}:opsA P b (⟨some d,none,.fldI z,xs⟩::r) K t h=(flags (evs t xs)∧okP (.fldI z) (strips (evs t xs))∧opsA P b r K (jj d t (valP (.fldI z) (strips (evs t xs)))) h):=by simp only[opsA,stepO,stepA,R.kd,qS]
theorem CV{z:Option Nat}:opsA P b (⟨some d,none,.loadI z,xs⟩::r) K t h=(flags (evs t xs)∧okP (.loadI z) (strips (evs t xs))∧opsA P b r K (jj d t (valP (.loadI z) (strips (evs t xs)))) h):=by simp only[opsA,stepO,stepA,R.kd,qS]
end
theorem valP_idxI{z n:Nat}{f:Nat->JT}{k:IntKind}{i:Int}:valP (.idxI z) [.sl n f,.int k i]= .ip (f i.toNat):=rfl
theorem Vi{z n:Nat}{f:Nat->JT}{k:IntKind}{i:Int}:okP (.idxI z) [.sl n f,.int k i]=((0<=i∧i<n)∧(f i.toNat).length=z):=rfl
theorem Zn{z:Nat}{cs:JT}:valP (.fldI z) [.ip cs]= .ip (cs.drop z):=rfl
theorem Vh{z:Nat}{cs:JT}:okP (.fldI z) [.ip cs]=(z<cs.length):=rfl
theorem oS{z:Option Nat}{cs:JT}:valP (.loadI z) [.ip cs]=cut cs 0 z:=rfl
theorem ul{z:Option Nat}{cs:JT}:okP (.loadI z) [.ip cs]=jK cs 0 z:=rfl
attribute [go_sem] LY LW CV valP_idxI Vi Zn Vh oS ul
end AF
end
theorem gdqA{α:Type _}{l:List α}{i:Nat}{a:α}:l.getD i a=l[i]?.getD a:=List.getD_eq_getElem?_getD
theorem zg{α:Type _}{l:List α}{i:Nat}(h:i<l.length):l[i]? =some l[i]:=List.getElem?_eq_getElem h
theorem qi{v:AF.AV}:AF.VLe v v:=AF.VLe.refl v
theorem aiA{p q:Prop}(h1:p)(h2:q):p∧q:=⟨h1,h2⟩
theorem eqt{p : Prop}(h : p) : p = True := eq_true h
theorem eqf{p : Prop}(h : ¬p) : p = False := eq_false h
theorem dqt{p : Prop}[Decidable p](h : p) : decide p = true := decide_eq_true h
theorem dqf{p : Prop}[Decidable p](h : ¬p) : decide p = false := decide_eq_false h
theorem ipo{c : Prop}{h : Decidable c}(hc : c){α : Sort _}{t e : α} : ite c t e = t := if_pos hc
theorem ine{c : Prop}{h : Decidable c}(hc : ¬c){α : Sort _}{t e : α} : ite c t e = e := if_neg hc
theorem nzl(n : Nat) : 0 <= n := Nat.zero_le n
theorem nlr(n : Nat) : n <= n := Nat.le_refl n
theorem nnz(n : Nat) : ¬n < 0 := Nat.not_lt_zero n
theorem lap{α : Type _}{as bs : List α} : (as ++ bs).length = as.length + bs.length := List.length_append
theorem lnl{α : Type _} : ([] : List α).length = 0 := rfl
theorem lco{α : Type _}{a : α}{as : List α} : (a :: as).length = as.length + 1 := rfl
theorem lan{α : Type _}(as : List α) : as ++ [] = as := List.append_nil as
theorem lna{α : Type _}(as : List α) : [] ++ as = as := rfl
theorem lca{α : Type _}{a : α}{as bs : List α} : (a :: as) ++ bs = a :: (as ++ bs) := rfl
theorem itn(n : Nat) : ((n : Int)).toNat = n := rfl
theorem lgs{α : Type _}{a : α}{i : Nat}{l : List α} : l[i]? = some a ↔ ∃ h : i < l.length, l[i] = a := List.getElem?_eq_some_iff
theorem ltl{α : Type _}{i : Nat}{l : List α}(h : l.length <= i) : l.take i = l := List.take_of_length_le h
theorem oma{p : Prop}(h : p := by omega) : p := h
open Go AF
theorem tT{p:Prop}(h:p:=by repeat' first|(with_reducible apply aiA)|(apply qe;omega)|(apply qd;rfl)|exact qi):p:=h
theorem Qt{α:Sort _}(e:α): ∃R,R=e:=⟨_,rfl⟩
