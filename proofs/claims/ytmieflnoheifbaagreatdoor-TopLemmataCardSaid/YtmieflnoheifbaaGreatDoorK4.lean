import Derived.Test.YtmieflnoheifbaaGreatDoorK2
import Derived.Test.YtmieflnoheifbaaGreatDoorK3
import Derived.Below
import Derived.ChangeSame
import Derived.ChangeShapes
import Derived.CallsIn
import Derived.Carry
import Derived.RowKit
import Derived.WalkKit
import Derived.ProofKit
set_option linter.all false
section
namespace AF
open Go
set_option maxRecDepth 4000
def qEX(k:IntKind)(a c:Int):Int:=k.wrap (a*2^(min c.toNat k.bits))
def qv5(k:IntKind)(a c:Int):Int:=a.fdiv (2^(min c.toNat k.bits))
def qob(k:IntKind)(a c:Int):Int:=k.wrap (BitVec.ofInt k.bits a&&&BitVec.ofInt k.bits c).toNat
def orK(k:IntKind)(a c:Int):Int:=k.wrap (BitVec.ofInt k.bits a|||BitVec.ofInt k.bits c).toNat
def qFq(k:IntKind)(a c:Int):Int:=k.wrap (BitVec.ofInt k.bits a^^^BitVec.ofInt k.bits c).toNat
def qsA(k:IntKind)(a c:Int):Int:=k.wrap (BitVec.ofInt k.bits a&&& ~~~ BitVec.ofInt k.bits c).toNat
theorem qzt{a0:AV}{r:wg}:zD 0 (a0::r)=a0:=rfl
theorem qAl{a0 v:AV}{r:wg}:jd 0 (a0::r) v=v::r:=rfl
theorem qzu{a0 a1:AV}{r:wg}:zD 1 (a0::a1::r)=a1:=rfl
theorem qAm{a0 a1 v:AV}{r:wg}:jd 1 (a0::a1::r) v=a0::v::r:=rfl
theorem qzv{a0 a1 a2:AV}{r:wg}:zD 2 (a0::a1::a2::r)=a2:=rfl
theorem qAn{a0 a1 a2 v:AV}{r:wg}:jd 2 (a0::a1::a2::r) v=a0::a1::v::r:=rfl
theorem qzw{a0 a1 a2 a3:AV}{r:wg}:zD 3 (a0::a1::a2::a3::r)=a3:=rfl
theorem qAo{a0 a1 a2 a3 v:AV}{r:wg}:jd 3 (a0::a1::a2::a3::r) v=a0::a1::a2::v::r:=rfl
theorem qzx{a0 a1 a2 a3 a4:AV}{r:wg}:zD 4 (a0::a1::a2::a3::a4::r)=a4:=rfl
theorem qAp{a0 a1 a2 a3 a4 v:AV}{r:wg}:jd 4 (a0::a1::a2::a3::a4::r) v=a0::a1::a2::a3::v::r:=rfl
theorem qzy{a0 a1 a2 a3 a4 a5:AV}{r:wg}:zD 5 (a0::a1::a2::a3::a4::a5::r)=a5:=rfl
theorem qAq{a0 a1 a2 a3 a4 a5 v:AV}{r:wg}:jd 5 (a0::a1::a2::a3::a4::a5::r) v=a0::a1::a2::a3::a4::v::r:=rfl
theorem qzz{a0 a1 a2 a3 a4 a5 a6:AV}{r:wg}:zD 6 (a0::a1::a2::a3::a4::a5::a6::r)=a6:=rfl
theorem qAr{a0 a1 a2 a3 a4 a5 a6 v:AV}{r:wg}:jd 6 (a0::a1::a2::a3::a4::a5::a6::r) v=a0::a1::a2::a3::a4::a5::v::r:=rfl
theorem qzA{a0 a1 a2 a3 a4 a5 a6 a7:AV}{r:wg}:zD 7 (a0::a1::a2::a3::a4::a5::a6::a7::r)=a7:=rfl
theorem qAs{a0 a1 a2 a3 a4 a5 a6 a7 v:AV}{r:wg}:jd 7 (a0::a1::a2::a3::a4::a5::a6::a7::r) v=a0::a1::a2::a3::a4::a5::a6::v::r:=rfl
theorem qtX{n:Nat}{a0 a1 a2 a3 a4 a5 a6 a7:AV}{r:wg}:zD (n+8) (a0::a1::a2::a3::a4::a5::a6::a7::r)=zD n r:=rfl
theorem qvc{n:Nat}{a0 a1 a2 a3 a4 a5 a6 a7 v:AV}{r:wg}:jd (n+8) (a0::a1::a2::a3::a4::a5::a6::a7::r) v=a0::a1::a2::a3::a4::a5::a6::a7::jd n r v:=rfl
theorem qpE{n:Nat}{a0 a1 a2 a3 a4 a5 a6 a7 a8 a9 a10 a11 a12 a13 a14 a15 a16 a17 a18 a19 a20 a21 a22 a23 a24 a25 a26 a27 a28 a29 a30 a31:AV}{r:wg}:zD (n+32) (a0::a1::a2::a3::a4::a5::a6::a7::a8::a9::a10::a11::a12::a13::a14::a15::a16::a17::a18::a19::a20::a21::a22::a23::a24::a25::a26::a27::a28::a29::a30::a31::r)=zD n r:=rfl
theorem qqL{n:Nat}{a0 a1 a2 a3 a4 a5 a6 a7 a8 a9 a10 a11 a12 a13 a14 a15 a16 a17 a18 a19 a20 a21 a22 a23 a24 a25 a26 a27 a28 a29 a30 a31 v:AV}{r:wg}:jd (n+32) (a0::a1::a2::a3::a4::a5::a6::a7::a8::a9::a10::a11::a12::a13::a14::a15::a16::a17::a18::a19::a20::a21::a22::a23::a24::a25::a26::a27::a28::a29::a30::a31::r) v=a0::a1::a2::a3::a4::a5::a6::a7::a8::a9::a10::a11::a12::a13::a14::a15::a16::a17::a18::a19::a20::a21::a22::a23::a24::a25::a26::a27::a28::a29::a30::a31::jd n r v:=rfl
theorem qEp{t:wg}{n:Nat}:ev t (.t n)=zD n t:=rfl
theorem qEo{t:wg}{v:AV}:ev t (.c v)=v:=rfl
theorem qiD{b:Bool}:(AV.bool b).strip=(AV.bool b):=rfl
theorem qkW{b:Bool}:(AV.bool b).flag=true:=rfl
theorem qim{b:Bool}:(AV.bool b).solid=true:=rfl
theorem qhw{b:Bool}:(AV.bool b).cells= [(AV.bool b)]:=rfl
theorem qnm{k:IntKind}{n:Int}:(AV.int k n).strip=(AV.int k n):=rfl
theorem qpm{k:IntKind}{n:Int}:(AV.int k n).flag=true:=rfl
theorem qm3{k:IntKind}{n:Int}:(AV.int k n).solid=true:=rfl
theorem qko{k:IntKind}{n:Int}:(AV.int k n).cells= [(AV.int k n)]:=rfl
theorem qnq{s:List UInt8}:(AV.str s).strip=(AV.str s):=rfl
theorem qpq{s:List UInt8}:(AV.str s).flag=true:=rfl
theorem qm7{s:List UInt8}:(AV.str s).solid=true:=rfl
theorem qks{s:List UInt8}:(AV.str s).cells= [(AV.str s)]:=rfl
theorem qq8{n:Nat}{f:Nat->wg}:(AV.sl n f).strip=(AV.sl n f):=rfl
theorem qtM{n:Nat}{f:Nat->wg}:(AV.sl n f).flag=true:=rfl
theorem qqV{n:Nat}{f:Nat->wg}:(AV.sl n f).solid=true:=rfl
theorem qoY{n:Nat}{f:Nat->wg}:(AV.sl n f).cells= [(AV.sl n f)]:=rfl
theorem qno{k v s p l:Nat}:(AV.osl k v s p l).strip=(AV.osl k v s p l):=rfl
theorem qpo{k v s p l:Nat}:(AV.osl k v s p l).flag=true:=rfl
theorem qm5{k v s p l:Nat}:(AV.osl k v s p l).solid=true:=rfl
theorem qkq{k v s p l:Nat}:(AV.osl k v s p l).cells= [(AV.osl k v s p l)]:=rfl
theorem qnk{c:wg}:(AV.agg c).strip=(AV.agg c):=rfl
theorem qpk{c:wg}:(AV.agg c).flag=true:=rfl
theorem qm1{c:wg}:(AV.agg c).solid=true:=rfl
theorem qnr{c:wg}:(AV.tup c).strip=(AV.tup c):=rfl
theorem qpr{c:wg}:(AV.tup c).flag=true:=rfl
theorem qkt{c:wg}:(AV.tup c).cells= [(AV.tup c)]:=rfl
theorem qq5{c:wg}:(AV.ip c).strip=(AV.ip c):=rfl
theorem qtJ{c:wg}:(AV.ip c).flag=true:=rfl
theorem qqS{c:wg}:(AV.ip c).solid=true:=rfl
theorem qoV{c:wg}:(AV.ip c).cells= [(AV.ip c)]:=rfl
theorem qq7{k v p:Nat}:(AV.op k v p).strip=(AV.op k v p):=rfl
theorem qtL{k v p:Nat}:(AV.op k v p).flag=true:=rfl
theorem qqU{k v p:Nat}:(AV.op k v p).solid=true:=rfl
theorem qoX{k v p:Nat}:(AV.op k v p).cells= [(AV.op k v p)]:=rfl
theorem qiH  :AV.nilp.strip=AV.nilp:=rfl
theorem qk0  :AV.nilp.flag=true:=rfl
theorem qip  :AV.nilp.solid=true:=rfl
theorem qhz  :AV.nilp.cells= [AV.nilp]:=rfl
theorem qq6  :AV.nl.strip=AV.nl:=rfl
theorem qtK  :AV.nl.flag=true:=rfl
theorem qqT  :AV.nl.solid=true:=rfl
theorem qoW  :AV.nl.cells= [AV.nl]:=rfl
theorem qq3{f:Fn}{a c:wg}:(AV.fn f a c).strip=(AV.fn f a c):=rfl
theorem qtH{f:Fn}{a c:wg}:(AV.fn f a c).flag=true:=rfl
theorem qqR{f:Fn}{a c:wg}:(AV.fn f a c).solid=true:=rfl
theorem qoT{f:Fn}{a c:wg}:(AV.fn f a c).cells= [(AV.fn f a c)]:=rfl
theorem qns{k:Nat}:(AV.yld k).strip=(AV.yld k):=rfl
theorem qps{k:Nat}:(AV.yld k).flag=true:=rfl
theorem qm8{k:Nat}:(AV.yld k).solid=true:=rfl
theorem qku{k:Nat}:(AV.yld k).cells= [(AV.yld k)]:=rfl
theorem qfZ  :AV.nilfn.strip=AV.nilfn:=rfl
theorem qhO  :AV.nilfn.flag=true:=rfl
theorem qfR  :AV.nilfn.solid=true:=rfl
theorem qfr  :AV.nilfn.cells= [AV.nilfn]:=rfl
theorem qnl  :AV.ifc.strip=AV.ifc:=rfl
theorem qpl  :AV.ifc.flag=true:=rfl
theorem qm2  :AV.ifc.solid=true:=rfl
theorem qkn  :AV.ifc.cells= [AV.ifc]:=rfl
theorem qf0  :AV.nilif.strip=AV.nilif:=rfl
theorem qhP  :AV.nilif.flag=true:=rfl
theorem qfS  :AV.nilif.solid=true:=rfl
theorem qfs  :AV.nilif.cells= [AV.nilif]:=rfl
theorem qf3:AV.undef.strip=AV.undef:=rfl
theorem qhS:AV.undef.flag=true:=rfl
theorem qkm{c:wg}:(AV.agg c).cells=c:=rfl
theorem qq4{g:Bool}{v:AV}:(AV.gd g v).strip=v:=rfl
theorem qtI{g:Bool}{v:AV}:(AV.gd g v).flag=g:=rfl
theorem qFg{P:Program}{b:Nat}{r:List RO}{K:Nx}{t:wg}{h:we}{d:Nat} {x:X}:opsA P b (⟨some d,none,.mv,[x]⟩::r) K t h=((ev t x).flag=true∧opsA P b r K (jd d t ((ev t x).strip)) h):=by simp only[opsA,stepO,stepA,R.kd,evs,flags,strips,qT,okP,okL,valP,valL,and_true,true_and,and_assoc]
theorem qDp{P:Program}{b:Nat}{r:List RO}{K:Nx}{t:wg}{h:we}{d:Nat} {x:X}{j:Nat}{u:Bool}:opsA P b (⟨some d,some (j,u),.mv,[x]⟩::r) K t h=(zk (zD j t)=true∧(qO (zD j t) u=true->(ev t x).flag=true)∧opsA P b r K (jd d t (.gd (qO (zD j t) u) ((ev t x).strip))) h):=by simp only[opsA,stepO,j0,R.kd,evs,flags,strips,qT,okP,okL,valP,valL,and_true,true_and,and_assoc]
theorem qDc{P:Program}{b:Nat}{r:List RO}{K:Nx}{t:wg}{h:we}{d:Nat}{q:BinOp}{x y:X}:opsA P b (⟨some d,none,.bin q,[x,y]⟩::r) K t h=((ev t x).flag=true∧(ev t y).flag=true∧gG q (ev t x).strip (ev t y).strip∧opsA P b r K (jd d t (fb q (ev t x).strip (ev t y).strip)) h):=by simp only[opsA,stepO,stepA,R.kd,evs,flags,strips,qT,okP,okL,valP,valL,and_true,true_and,and_assoc]
theorem qBl{P:Program}{b:Nat}{r:List RO}{K:Nx}{t:wg}{h:we}{d:Nat}{q:BinOp}{x y:X}{j:Nat}{u:Bool}:opsA P b (⟨some d,some (j,u),.bin q,[x,y]⟩::r) K t h=(zk (zD j t)=true∧(qO (zD j t) u=true->(ev t x).flag=true∧(ev t y).flag=true∧gG q (ev t x).strip (ev t y).strip)∧opsA P b r K (jd d t (.gd (qO (zD j t) u) (fb q (ev t x).strip (ev t y).strip))) h):=by simp only[opsA,stepO,j0,R.kd,evs,flags,strips,qT,okP,okL,valP,valL,and_true,true_and,and_assoc]
theorem qFh{P:Program}{b:Nat}{r:List RO}{K:Nx}{t:wg}{h:we}{d:Nat}{q:UnOp}{xs:List X}:opsA P b (⟨some d,none,.un q,xs⟩::r) K t h=(flags (evs t xs)∧okP (.un q) (strips (evs t xs))∧opsA P b r K (jd d t (valP (.un q) (strips (evs t xs)))) h):=by simp only[opsA,stepO,stepA,R.kd,qT]
theorem qDq{P:Program}{b:Nat}{r:List RO}{K:Nx}{t:wg}{h:we}{d:Nat}{q:UnOp}{xs:List X}{j:Nat}{u:Bool}:opsA P b (⟨some d,some (j,u),.un q,xs⟩::r) K t h=(zk (zD j t)=true∧(qO (zD j t) u=true->flags (evs t xs)∧okP (.un q) (strips (evs t xs)))∧opsA P b r K (jd d t (.gd (qO (zD j t) u) (valP (.un q) (strips (evs t xs))))) h):=by simp only[opsA,stepO,j0,R.kd,qT]
theorem qAQ{P:Program}{b:Nat}{r:List RO}{K:Nx}{t:wg}{h:we}{d:Nat}{k:IntKind}{xs:List X}:opsA P b (⟨some d,none,.conv k,xs⟩::r) K t h=(flags (evs t xs)∧okP (.conv k) (strips (evs t xs))∧opsA P b r K (jd d t (valP (.conv k) (strips (evs t xs)))) h):=by simp only[opsA,stepO,stepA,R.kd,qT]
theorem qvF{P:Program}{b:Nat}{r:List RO}{K:Nx}{t:wg}{h:we}{d:Nat}{k:NK}{n:Bool}{xs:List X}:opsA P b (⟨some d,none,.isnil k n,xs⟩::r) K t h=(flags (evs t xs)∧okP (.isnil k n) (strips (evs t xs))∧opsA P b r K (jd d t (valP (.isnil k n) (strips (evs t xs)))) h):=by simp only[opsA,stepO,stepA,R.kd,qT]
theorem qBk{P:Program}{b:Nat}{r:List RO}{K:Nx}{t:wg}{h:we}{d:Nat}{ks:List AK}{n:Bool}{xs:List X}{j:Nat}{u:Bool}:opsA P b (⟨some d,some (j,u),.aeq ks n,xs⟩::r) K t h=(zk (zD j t)=true∧(qO (zD j t) u=true->flags (evs t xs)∧okP (.aeq ks n) (strips (evs t xs)))∧opsA P b r K (jd d t (.gd (qO (zD j t) u) (valP (.aeq ks n) (strips (evs t xs))))) h):=by simp only[opsA,stepO,j0,R.kd,qT]
theorem qDe{P:Program}{b:Nat}{r:List RO}{K:Nx}{t:wg}{h:we}{d:Nat}{i:Nat}{xs:List X}:opsA P b (⟨some d,none,.ext i,xs⟩::r) K t h=(flags (evs t xs)∧okP (.ext i) (strips (evs t xs))∧opsA P b r K (jd d t (valP (.ext i) (strips (evs t xs)))) h):=by simp only[opsA,stepO,stepA,R.kd,qT]
theorem qvD{P:Program}{b:Nat}{r:List RO}{K:Nx}{t:wg}{h:we}{d:Nat}{z:wg}{ps:List (Nat×Nat)}{xs:List X}:opsA P b (⟨some d,none,.build z ps,xs⟩::r) K t h=(flags (evs t xs)∧okP (.build z ps) (strips (evs t xs))∧opsA P b r K (jd d t (valP (.build z ps) (strips (evs t xs)))) h):=by simp only[opsA,stepO,stepA,R.kd,qT]
theorem qrr{P:Program}{b:Nat}{r:List RO}{K:Nx}{t:wg}{h:we}{d:Nat}{z:wg}{ps:List (Nat×Nat)}{xs:List X}{j:Nat}{u:Bool}:opsA P b (⟨some d,some (j,u),.build z ps,xs⟩::r) K t h=(zk (zD j t)=true∧(qO (zD j t) u=true->flags (evs t xs)∧okP (.build z ps) (strips (evs t xs)))∧opsA P b r K (jd d t (.gd (qO (zD j t) u) (valP (.build z ps) (strips (evs t xs))))) h):=by simp only[opsA,stepO,j0,R.kd,qT]
theorem qAU{P:Program}{b:Nat}{r:List RO}{K:Nx}{t:wg}{h:we}{d:Nat}{f:Fn}{n:Nat}{xs:List X}:opsA P b (⟨some d,none,.mkfn f n,xs⟩::r) K t h=(flags (evs t xs)∧okP (.mkfn f n) (strips (evs t xs))∧opsA P b r K (jd d t (valP (.mkfn f n) (strips (evs t xs)))) h):=by simp only[opsA,stepO,stepA,R.kd,qT]
theorem qAY{P:Program}{b:Nat}{r:List RO}{K:Nx}{t:wg}{h:we}{d:Nat} {xs:List X}:opsA P b (⟨some d,none,.slen,xs⟩::r) K t h=(flags (evs t xs)∧okP (.slen) (strips (evs t xs))∧opsA P b r K (jd d t (valP (.slen) (strips (evs t xs)))) h):=by simp only[opsA,stepO,stepA,R.kd,qT]
theorem qvO{P:Program}{b:Nat}{r:List RO}{K:Nx}{t:wg}{h:we}{d:Nat} {xs:List X}{j:Nat}{u:Bool}:opsA P b (⟨some d,some (j,u),.slen,xs⟩::r) K t h=(zk (zD j t)=true∧(qO (zD j t) u=true->flags (evs t xs)∧okP (.slen) (strips (evs t xs)))∧opsA P b r K (jd d t (.gd (qO (zD j t) u) (valP (.slen) (strips (evs t xs))))) h):=by simp only[opsA,stepO,j0,R.kd,qT]
theorem qAX{P:Program}{b:Nat}{r:List RO}{K:Nx}{t:wg}{h:we}{d:Nat} {xs:List X}:opsA P b (⟨some d,none,.sidx,xs⟩::r) K t h=(flags (evs t xs)∧okP (.sidx) (strips (evs t xs))∧opsA P b r K (jd d t (valP (.sidx) (strips (evs t xs)))) h):=by simp only[opsA,stepO,stepA,R.kd,qT]
theorem qAM{P:Program}{b:Nat}{r:List RO}{K:Nx}{t:wg}{h:we}{d n1 n2:Nat}{n3:Option Nat} {xs:List X}:opsA P b (⟨some d,none,(.aidx n1 n2 n3),xs⟩::r) K t h=(flags (evs t xs)∧okP (.aidx n1 n2 n3) (strips (evs t xs))∧opsA P b r K (jd d t (valP (.aidx n1 n2 n3) (strips (evs t xs)))) h):=by simp only[opsA,stepO,stepA,R.kd,qT]
theorem qvN{P:Program}{b:Nat}{r:List RO}{K:Nx}{t:wg}{h:we}{d:Nat} {xs:List X}{j:Nat}{u:Bool}:opsA P b (⟨some d,some (j,u),.sidx,xs⟩::r) K t h=(zk (zD j t)=true∧(qO (zD j t) u=true->flags (evs t xs)∧okP (.sidx) (strips (evs t xs)))∧opsA P b r K (jd d t (.gd (qO (zD j t) u) (valP (.sidx) (strips (evs t xs))))) h):=by simp only[opsA,stepO,j0,R.kd,qT]
theorem qAZ{P:Program}{b:Nat}{r:List RO}{K:Nx}{t:wg}{h:we}{d:Nat}{lo hi:Bool}{xs:List X}:opsA P b (⟨some d,none,.sslc lo hi,xs⟩::r) K t h=(flags (evs t xs)∧okP (.sslc lo hi) (strips (evs t xs))∧opsA P b r K (jd d t (valP (.sslc lo hi) (strips (evs t xs)))) h):=by simp only[opsA,stepO,stepA,R.kd,qT]
theorem qvP{P:Program}{b:Nat}{r:List RO}{K:Nx}{t:wg}{h:we}{d:Nat}{lo hi:Bool}{xs:List X}{j:Nat}{u:Bool}:opsA P b (⟨some d,some (j,u),.sslc lo hi,xs⟩::r) K t h=(zk (zD j t)=true∧(qO (zD j t) u=true->flags (evs t xs)∧okP (.sslc lo hi) (strips (evs t xs)))∧opsA P b r K (jd d t (.gd (qO (zD j t) u) (valP (.sslc lo hi) (strips (evs t xs))))) h):=by simp only[opsA,stepO,j0,R.kd,qT]
theorem qFf{P:Program}{b:Nat}{r:List RO}{K:Nx}{t:wg}{h:we}{d:Nat}{m:Bool}{xs:List X}:opsA P b (⟨some d,none,.mm m,xs⟩::r) K t h=(flags (evs t xs)∧okP (.mm m) (strips (evs t xs))∧opsA P b r K (jd d t (valP (.mm m) (strips (evs t xs)))) h):=by simp only[opsA,stepO,stepA,R.kd,qT]
theorem qDf{P:Program}{b:Nat}{r:List RO}{K:Nx}{t:wg}{h:we}{d:Nat} {xs:List X}:opsA P b (⟨some d,none,.len,xs⟩::r) K t h=(flags (evs t xs)∧okL h (.len) (strips (evs t xs))∧opsA P b r K (jd d t (valL h (.len) (strips (evs t xs)))) h):=by simp only[opsA,stepO,stepA,R.kd,qT]
theorem qBm{P:Program}{b:Nat}{r:List RO}{K:Nx}{t:wg}{h:we}{d:Nat} {xs:List X}{j:Nat}{u:Bool}:opsA P b (⟨some d,some (j,u),.len,xs⟩::r) K t h=(zk (zD j t)=true∧(qO (zD j t) u=true->flags (evs t xs)∧okL h (.len) (strips (evs t xs)))∧opsA P b r K (jd d t (.gd (qO (zD j t) u) (valL h (.len) (strips (evs t xs))))) h):=by simp only[opsA,stepO,j0,R.kd,qT]
theorem qAS{P:Program}{b:Nat}{r:List RO}{K:Nx}{t:wg}{h:we}{d:Nat}{z:Nat}{xs:List X}:opsA P b (⟨some d,none,.idxA z,xs⟩::r) K t h=(flags (evs t xs)∧okL h (.idxA z) (strips (evs t xs))∧opsA P b r K (jd d t (valL h (.idxA z) (strips (evs t xs)))) h):=by simp only[opsA,stepO,stepA,R.kd,qT]
theorem qvK{P:Program}{b:Nat}{r:List RO}{K:Nx}{t:wg}{h:we}{d:Nat}{z:Nat}{xs:List X}{j:Nat}{u:Bool}:opsA P b (⟨some d,some (j,u),.idxA z,xs⟩::r) K t h=(zk (zD j t)=true∧(qO (zD j t) u=true->flags (evs t xs)∧okL h (.idxA z) (strips (evs t xs)))∧opsA P b r K (jd d t (.gd (qO (zD j t) u) (valL h (.idxA z) (strips (evs t xs))))) h):=by simp only[opsA,stepO,j0,R.kd,qT]
theorem qAR{P:Program}{b:Nat}{r:List RO}{K:Nx}{t:wg}{h:we}{d:Nat}{p:Nat}{xs:List X}:opsA P b (⟨some d,none,.fldA p,xs⟩::r) K t h=(flags (evs t xs)∧okL h (.fldA p) (strips (evs t xs))∧opsA P b r K (jd d t (valL h (.fldA p) (strips (evs t xs)))) h):=by simp only[opsA,stepO,stepA,R.kd,qT]
theorem qvJ{P:Program}{b:Nat}{r:List RO}{K:Nx}{t:wg}{h:we}{d:Nat}{p:Nat}{xs:List X}{j:Nat}{u:Bool}:opsA P b (⟨some d,some (j,u),.fldA p,xs⟩::r) K t h=(zk (zD j t)=true∧(qO (zD j t) u=true->flags (evs t xs)∧okL h (.fldA p) (strips (evs t xs)))∧opsA P b r K (jd d t (.gd (qO (zD j t) u) (valL h (.fldA p) (strips (evs t xs))))) h):=by simp only[opsA,stepO,j0,R.kd,qT]
theorem qAT{P:Program}{b:Nat}{r:List RO}{K:Nx}{t:wg}{h:we}{d:Nat}{n:Option Nat}{xs:List X}:opsA P b (⟨some d,none,.load n,xs⟩::r) K t h=(flags (evs t xs)∧okL h (.load n) (strips (evs t xs))∧opsA P b r K (jd d t (valL h (.load n) (strips (evs t xs)))) h):=by simp only[opsA,stepO,stepA,R.kd,qT]
theorem qvL{P:Program}{b:Nat}{r:List RO}{K:Nx}{t:wg}{h:we}{d:Nat}{n:Option Nat}{xs:List X}{j:Nat}{u:Bool}:opsA P b (⟨some d,some (j,u),.load n,xs⟩::r) K t h=(zk (zD j t)=true∧(qO (zD j t) u=true->flags (evs t xs)∧okL h (.load n) (strips (evs t xs)))∧opsA P b r K (jd d t (.gd (qO (zD j t) u) (valL h (.load n) (strips (evs t xs))))) h):=by simp only[opsA,stepO,j0,R.kd,qT]
theorem qro{P:Program}{b:Nat}{r:List RO}{K:Nx}{t:wg}{h:we}{d:Nat} {xs:List X}:opsA P b (⟨some d,none,.nilchk,xs⟩::r) K t h=(flags (evs t xs)∧okL h (.nilchk) (strips (evs t xs))∧opsA P b r K (jd d t (valL h (.nilchk) (strips (evs t xs)))) h):=by simp only[opsA,stepO,stepA,R.kd,qT]
theorem qn8{P:Program}{b:Nat}{r:List RO}{K:Nx}{t:wg}{h:we}{d:Nat} {xs:List X}{j:Nat}{u:Bool}:opsA P b (⟨some d,some (j,u),.nilchk,xs⟩::r) K t h=(zk (zD j t)=true∧(qO (zD j t) u=true->flags (evs t xs)∧okL h (.nilchk) (strips (evs t xs)))∧opsA P b r K (jd d t (.gd (qO (zD j t) u) (valL h (.nilchk) (strips (evs t xs))))) h):=by simp only[opsA,stepO,j0,R.kd,qT]
theorem qDi{P:Program}{b:Nat}{r:List RO}{K:Nx}{t:wg}{h:we}{d:Nat}{z:Nat}{lo hi:Bool}{xs:List X}:opsA P b (⟨some d,none,.slc z lo hi,xs⟩::r) K t h=(flags (evs t xs)∧okL h (.slc z lo hi) (strips (evs t xs))∧opsA P b r K (jd d t (valL h (.slc z lo hi) (strips (evs t xs)))) h):=by simp only[opsA,stepO,stepA,R.kd,qT]
theorem qAW{P:Program}{b:Nat}{r:List RO}{K:Nx}{t:wg}{h:we}{d:Nat}{c x y:X}:opsA P b (⟨some d,none,.pick,[c,x,y]⟩::r) K t h=(Uz (ev t c) (ev t x) (ev t y)∧opsA P b r K (jd d t (jU (ev t c) (ev t x) (ev t y))) h):=by simp only[opsA,stepO,stepA,R.kd,qT,evs]
theorem qvM{P:Program}{b:Nat}{r:List RO}{K:Nx}{t:wg}{h:we}{d:Nat}{c x y:X}{j:Nat}{u:Bool}:opsA P b (⟨some d,some (j,u),.pick,[c,x,y]⟩::r) K t h=(zk (zD j t)=true∧(qO (zD j t) u=true->Uz (ev t c) (ev t x) (ev t y))∧opsA P b r K (jd d t (.gd (qO (zD j t) u) (jU (ev t c) (ev t x) (ev t y)))) h):=by simp only[opsA,stepO,j0,R.kd,qT,evs]
theorem qAV{P:Program}{b:Nat}{r:List RO}{K:Nx}{t:wg}{h:we}{d:Option Nat}{j z:Nat}{ty:TypeId}{xs:List X}:opsA P b (⟨d,none,.nilo j z ty,xs⟩::r) K t h=(flags (evs t xs)∧effE b h (.nilo j z ty) (strips (evs t xs)) t d (opsA P b r K)):=by simp only[opsA,stepO,stepA,R.kd]
theorem qvC{P:Program}{b:Nat}{r:List RO}{K:Nx}{t:wg}{h:we}{d:Option Nat}{j:Nat}{ty:TypeId}{z:wg}{xs:List X}:opsA P b (⟨d,none,.alloc j ty z,xs⟩::r) K t h=(flags (evs t xs)∧effE b h (.alloc j ty z) (strips (evs t xs)) t d (opsA P b r K)):=by simp only[opsA,stepO,stepA,R.kd]
theorem qDd{P:Program}{b:Nat}{r:List RO}{K:Nx}{t:wg}{h:we}{d:Option Nat}{j:Nat}{ty:TypeId}{xs:List X}:opsA P b (⟨d,none,.box j ty,xs⟩::r) K t h=(flags (evs t xs)∧effE b h (.box j ty) (strips (evs t xs)) t d (opsA P b r K)):=by simp only[opsA,stepO,stepA,R.kd]
theorem qvH{P:Program}{b:Nat}{r:List RO}{K:Nx}{t:wg}{h:we}{d:Option Nat}{n:Nat}{xs:List X}:opsA P b (⟨d,none,.store n,xs⟩::r) K t h=(flags (evs t xs)∧effE b h (.store n) (strips (evs t xs)) t d (opsA P b r K)):=by simp only[opsA,stepO,stepA,R.kd]
theorem qvG{P:Program}{b:Nat}{r:List RO}{K:Nx}{t:wg}{h:we}{d:Option Nat}{j z m:Nat}{ty:TypeId}{zs:wg}{xs:List X}:opsA P b (⟨d,none,.mkslc j z ty zs m,xs⟩::r) K t h=(flags (evs t xs)∧effE b h (.mkslc j z ty zs m) (strips (evs t xs)) t d (opsA P b r K)):=by simp only[opsA,stepO,stepA,R.kd]
theorem qAO{P:Program}{b:Nat}{r:List RO}{K:Nx}{t:wg}{h:we}{d:Option Nat}{j z n:Nat}{ty:TypeId}{zs:wg}{ps:List (Nat×Nat)}{xs:List X}:opsA P b (⟨d,none,.bslc j z n ty zs ps,xs⟩::r) K t h=(flags (evs t xs)∧effE b h (.bslc j z n ty zs ps) (strips (evs t xs)) t d (opsA P b r K)):=by simp only[opsA,stepO,stepA,R.kd]
theorem qDa{P:Program}{b:Nat}{r:List RO}{K:Nx}{t:wg}{h:we}{d:Option Nat}{j z m:Nat}{ty:TypeId}{xs:List X}:opsA P b (⟨d,none,.app j z ty m,xs⟩::r) K t h=(flags (evs t xs)∧effE b h (.app j z ty m) (strips (evs t xs)) t d (opsA P b r K)):=by simp only[opsA,stepO,stepA,R.kd]
theorem qAN{P:Program}{b:Nat}{r:List RO}{K:Nx}{t:wg}{h:we}{d:Option Nat}{j:Nat}{ty:TypeId}{xs:List X}:opsA P b (⟨d,none,.apps j ty,xs⟩::r) K t h=(flags (evs t xs)∧effE b h (.apps j ty) (strips (evs t xs)) t d (opsA P b r K)):=by simp only[opsA,stepO,stepA,R.kd]
theorem qAP{P:Program}{b:Nat}{r:List RO}{K:Nx}{t:wg}{h:we}{d:Option Nat}{f:Nat}{p:Bool}{xs:List X}:opsA P b (⟨d,none,.call f p,xs⟩::r) K t h=qka P f p (evs t xs) d (opsA P b r K) t h:=by simp only[opsA,stepO,stepA,R.kd]
theorem qvI{P:Program}{b:Nat}{r:List RO}{K:Nx}{t:wg}{h:we}{d:Option Nat}{f:Nat}{p:Bool}{xs:List X}{j:Nat}{u:Bool}:opsA P b (⟨d,some (j,u),.call f p,xs⟩::r) K t h=(zk (zD j t)=true∧qkb P f p (qO (zD j t) u) (evs t xs) d (opsA P b r K) t h):=by simp only[opsA,stepO,j0,R.kd]
theorem qvE{P:Program}{b:Nat}{r:List RO}{K:Nx}{t:wg}{h:we}{d:Option Nat}{xs:List X}:opsA P b (⟨d,none,.callv,xs⟩::r) K t h=(flags (evs t xs)∧qab P (strips (evs t xs)) d (opsA P b r K) t h):=by simp only[opsA,stepO,stepA,R.kd]
theorem qDg{P:Program}{b:Nat}{K:Nx}{t:wg}{h:we}:opsA P b [] K t h=K t h:=(rfl)
theorem qtE{t:wg}:evs t []= []:=rfl
theorem qpf{t:wg}{x:X}{r:List X}:evs t (x::r)=ev t x::evs t r:=rfl
theorem qiL:strips []= []:=rfl
theorem qf4{x:AV}{r:wg}:strips (x::r)=x.strip::strips r:=rfl
theorem qk4:flags []=True:=rfl
theorem qhT{x:AV}{r:wg}:flags (x::r)=(x.flag=true∧flags r):=rfl
theorem qjE{k l:IntKind}{a c:Int}:fb .add (.int k a) (.int l c)= .int k (k.wrap (a+c)):=rfl
theorem qji{k l:IntKind}{a c:Int}:gG .add (.int k a) (.int l c)=(k=l):=rfl
theorem qjR{k l:IntKind}{a c:Int}:fb .sub (.int k a) (.int l c)= .int k (k.wrap (a-c)):=rfl
theorem qjv{k l:IntKind}{a c:Int}:gG .sub (.int k a) (.int l c)=(k=l):=rfl
theorem qjL{k l:IntKind}{a c:Int}:fb .mul (.int k a) (.int l c)= .int k (k.wrap (a*c)):=rfl
theorem qjp{k l:IntKind}{a c:Int}:gG .mul (.int k a) (.int l c)=(k=l):=rfl
theorem qjN{k l:IntKind}{a c:Int}:fb .quo (.int k a) (.int l c)= .int k (k.wrap (a.tdiv c)):=rfl
theorem qjr{k l:IntKind}{a c:Int}:gG .quo (.int k a) (.int l c)=(k=l∧c≠0):=rfl
theorem qjO{k l:IntKind}{a c:Int}:fb .rem (.int k a) (.int l c)= .int k (a.tmod c):=rfl
theorem qjs{k l:IntKind}{a c:Int}:gG .rem (.int k a) (.int l c)=(k=l∧c≠0):=rfl
theorem qjP{k l:IntKind}{a c:Int}:fb .shl (.int k a) (.int l c)= .int k (qEX k a c):=rfl
theorem qjt{k l:IntKind}{a c:Int}:gG .shl (.int k a) (.int l c)=(0<=c):=rfl
theorem qjQ{k l:IntKind}{a c:Int}:fb .shr (.int k a) (.int l c)= .int k (qv5 k a c):=rfl
theorem qju{k l:IntKind}{a c:Int}:gG .shr (.int k a) (.int l c)=(0<=c):=rfl
theorem qjG{k l:IntKind}{a c:Int}:fb .eql (.int k a) (.int l c)= .bool (decide (a=c)):=rfl
theorem qjk{k l:IntKind}{a c:Int}:gG .eql (.int k a) (.int l c)=(k=l):=rfl
theorem qjM{k l:IntKind}{a c:Int}:fb .neq (.int k a) (.int l c)= .bool (!decide (a=c)):=rfl
theorem qjq{k l:IntKind}{a c:Int}:gG .neq (.int k a) (.int l c)=(k=l):=rfl
theorem qjK{k l:IntKind}{a c:Int}:fb .lss (.int k a) (.int l c)= .bool (decide (a<c)):=rfl
theorem qjo{k l:IntKind}{a c:Int}:gG .lss (.int k a) (.int l c)=(k=l):=rfl
theorem qjJ{k l:IntKind}{a c:Int}:fb .leq (.int k a) (.int l c)= .bool (decide (a<=c)):=rfl
theorem qjn{k l:IntKind}{a c:Int}:gG .leq (.int k a) (.int l c)=(k=l):=rfl
theorem qjI{k l:IntKind}{a c:Int}:fb .gtr (.int k a) (.int l c)= .bool (decide (c<a)):=rfl
theorem qjm{k l:IntKind}{a c:Int}:gG .gtr (.int k a) (.int l c)=(k=l):=rfl
theorem qjH{k l:IntKind}{a c:Int}:fb .geq (.int k a) (.int l c)= .bool (decide (c<=a)):=rfl
theorem qjl{k l:IntKind}{a c:Int}:gG .geq (.int k a) (.int l c)=(k=l):=rfl
theorem qjF{k l:IntKind}{a c:Int}:fb .and (.int k a) (.int l c)= .int k (qob k a c):=rfl
theorem qjj{k l:IntKind}{a c:Int}:gG .and (.int k a) (.int l c)=(k=l):=rfl
theorem qoz{k l:IntKind}{a c:Int}:fb .or (.int k a) (.int l c)= .int k (orK k a c):=rfl
theorem qoy{k l:IntKind}{a c:Int}:gG .or (.int k a) (.int l c)=(k=l):=rfl
theorem qjS{k l:IntKind}{a c:Int}:fb .xor (.int k a) (.int l c)= .int k (qFq k a c):=rfl
theorem qjw{k l:IntKind}{a c:Int}:gG .xor (.int k a) (.int l c)=(k=l):=rfl
theorem qei{k l:IntKind}{a c:Int}:fb .andNot (.int k a) (.int l c)= .int k (qsA k a c):=rfl
theorem qeh{k l:IntKind}{a c:Int}:gG .andNot (.int k a) (.int l c)=(k=l):=rfl
theorem qjT{s u:List UInt8}:fb .add (.str s) (.str u)= .str (s++u):=rfl
theorem qjx{s u:List UInt8}:gG .add (.str s) (.str u)=(s.length+u.length<=9223372036854775807):=rfl
theorem qjU{s u:List UInt8}:fb .eql (.str s) (.str u)= .bool (decide (s=u)):=rfl
theorem qjy{s u:List UInt8}:gG .eql (.str s) (.str u)=True:=rfl
theorem qjZ{s u:List UInt8}:fb .neq (.str s) (.str u)= .bool (!decide (s=u)):=rfl
theorem qjD{s u:List UInt8}:gG .neq (.str s) (.str u)=True:=rfl
theorem qjY{s u:List UInt8}:fb .lss (.str s) (.str u)= .bool (Op.bytesLess s u):=rfl
theorem qjC{s u:List UInt8}:gG .lss (.str s) (.str u)=True:=rfl
theorem qjX{s u:List UInt8}:fb .leq (.str s) (.str u)= .bool (Op.bytesLess s u||decide (s=u)):=rfl
theorem qjB{s u:List UInt8}:gG .leq (.str s) (.str u)=True:=rfl
theorem qjW{s u:List UInt8}:fb .gtr (.str s) (.str u)= .bool (!(Op.bytesLess s u||decide (s=u))):=rfl
theorem qjA{s u:List UInt8}:gG .gtr (.str s) (.str u)=True:=rfl
theorem qjV{s u:List UInt8}:fb .geq (.str s) (.str u)= .bool (!Op.bytesLess s u):=rfl
theorem qjz{s u:List UInt8}:gG .geq (.str s) (.str u)=True:=rfl
theorem qnQ{n p q:Bool}:valP (.bool n) [.bool p,.bool q]= .bool (n !=(p==q)):=rfl
theorem qqb{n p q:Bool}:okP (.bool n) [.bool p,.bool q]=True:=rfl
theorem qrl{p:Bool}:valP (.un .not) [.bool p]= .bool (!p):=rfl
theorem quC{p:Bool}:okP (.un .not) [.bool p]=True:=rfl
theorem qrk{k:IntKind}{n:Int}:valP (.un .neg) [.int k n]= .int k (k.wrap (0-n)):=rfl
theorem quB{k:IntKind}{n:Int}:okP (.un .neg) [.int k n]=True:=rfl
theorem qnR{k l:IntKind}{n:Int}:valP (.conv k) [.int l n]= .int k (k.wrap n):=rfl
theorem qqc{k l:IntKind}{n:Int}:okP (.conv k) [.int l n]=True:=rfl
theorem qcy{n:Bool}{x:AV}:valP (.isnil .ptr n) [x]= .bool (n !=(zn .ptr x).getD false):=rfl
theorem qdA{n:Bool}{x:AV}:okP (.isnil .ptr n) [x]=((zn .ptr x).isSome=true):=rfl
theorem qcl{n:Bool}{x:AV}:valP (.isnil .func n) [x]= .bool (n !=(zn .func x).getD false):=rfl
theorem qcu{n:Bool}{x:AV}:okP (.isnil .func n) [x]=((zn .func x).isSome=true):=rfl
theorem qbx{n:Bool}{x:AV}:valP (.isnil .iface n) [x]= .bool (n !=(zn .iface x).getD false):=rfl
theorem qcd{n:Bool}{x:AV}:okP (.isnil .iface n) [x]=((zn .iface x).isSome=true):=rfl
theorem qaF{n:Bool}{m:Nat}{f:Nat->wg}:valP (.isnil .slice n) [.sl m f]=if m=0 then .anyb else .bool (n !=false):=rfl
theorem qeO{n:Bool}{m:Nat}{f:Nat->wg}:okP (.isnil .slice n) [.sl m f]=True:=rfl
theorem qd2{n:Bool}:valP (.isnil .slice n) [.nl]= .bool (n !=true):=rfl
theorem qeN{n:Bool}:okP (.isnil .slice n) [.nl]=True:=by simp[okP,zn]
theorem qhB(A B:Nx)(t:wg)(h:we):qfv .anyb A B t h=(A t h∧B t h):=rfl
theorem qiC:AV.strip .anyb= .anyb:=rfl
theorem qkV:AV.flag .anyb=true:=rfl
theorem qil:AV.solid .anyb=true:=rfl
theorem qhv:AV.cells .anyb= [.anyb]:=rfl
theorem qlN:zn .ptr .nilp=some true:=rfl
theorem qh3:zn .func .nilfn=some true:=rfl
theorem qh4:zn .iface .nilif=some true:=rfl
theorem qur:zn .slice .nl=some true:=rfl
theorem quq{c:wg}:zn .ptr (.ip c)=some false:=rfl
theorem qup{f:Fn}{a c:wg}:zn .func (.fn f a c)=some false:=rfl
theorem qpV:zn .iface .ifc=some false:=rfl
theorem qrh{ks:List AK}{n:Bool}{x y:wg}:valP (.aeq ks n) [.agg x,.agg y]= .bool (n !=(jt ks x y).getD false):=rfl
theorem qux{ks:List AK}{n:Bool}{x y:wg}:okP (.aeq ks n) [.agg x,.agg y]=((jt ks x y).isSome=true):=rfl
theorem qrj{p:Nat}{n:Option Nat}{c:wg}:valP (.fld p n) [.agg c]=cut c p n:=rfl
theorem quz{p:Nat}{n:Option Nat}{c:wg}:okP (.fld p n) [.agg c]=jZ c p n:=rfl
theorem qtj{p:Nat}{c:wg}:jZ c p none=(p<c.length):=rfl
theorem qtk{p n:Nat}{c:wg}:jZ c p (some n)=(p+n<=c.length):=rfl
theorem qri{i:Nat}{c:wg}:valP (.ext i) [.tup c]=(c[i]?).getD .undef:=rfl
theorem quy{i:Nat}{c:wg}:okP (.ext i) [.tup c]=(i<c.length):=rfl
theorem qiZ{z:wg}{ps:List (Nat×Nat)}{vs:wg}:valP (.build z ps) vs= .agg (gP z ps vs):=by cases vs<;>rfl
theorem ql5{z:wg}{ps:List (Nat×Nat)}{vs:wg}:okP (.build z ps) vs=c8 z.length ps vs:=by cases vs<;>rfl
theorem qhL{n:Nat}:c8 n [] []=True:=rfl
theorem qfy{m p n:Nat}{ps:List (Nat×Nat)}{v:AV}{vs:wg}:c8 m ((p,n)::ps) (v::vs)=(v.solid=true∧v.cells.length=n∧p+n<=m∧c8 m ps vs):=rfl
theorem qkS{z:wg}{ps:List (Nat×Nat)}:gP z ps []=z:=by cases ps<;>rfl
theorem qhK{z:wg}{p n:Nat}{ps:List (Nat×Nat)}{v:AV}{vs:wg}:gP z ((p,n)::ps) (v::vs)=gP (z.take p++v.cells++z.drop (p+n)) ps vs:=rfl
theorem qnX{f:Fn}{n:Nat}{vs:wg}:valP (.mkfn f n) vs= .fn f (vs.take n) (vs.drop n):=by cases vs<;>rfl
theorem qqf{f:Fn}{n:Nat}{vs:wg}:okP (.mkfn f n) vs=(n<=vs.length):=by cases vs<;>rfl
theorem qnY{s:List UInt8}{k:IntKind}{i:Int}:valP .sidx [.str s,.int k i]= .int .u8 ((s[i.toNat]?).getD 0).toNat:=rfl
theorem qnP{cs:wg}{k:IntKind}{i:Int}{n1 n2:Nat}{n3:Option Nat}:valP (.aidx n1 n2 n3) [.agg cs,.int k i]=cut cs (i.toNat*n2) n3:=rfl
theorem qqa{cs:wg}{k:IntKind}{i:Int}{n1 n2:Nat}{n3:Option Nat}:okP (.aidx n1 n2 n3) [.agg cs,.int k i]=((0<=i∧i<n1)∧jZ cs (i.toNat*n2) n3):=rfl
theorem qqg{s:List UInt8}{k:IntKind}{i:Int}:okP .sidx [.str s,.int k i]=(0<=i∧i<s.length):=rfl
theorem qi1{s:List UInt8}{k m:IntKind}{a c:Int}:valP (.sslc true true) [.str s,.int k a,.int m c]= .str ((s.drop (a:Int).toNat).take ((c:Int).toNat-(a:Int).toNat)):=by simp[valP,loB,hiB]
theorem ql7{s:List UInt8}{k m:IntKind}{a c:Int}:okP (.sslc true true) [.str s,.int k a,.int m c]=(0<=(a:Int)∧(a:Int)<=c∧c<=(s.length:Int)):=by simp[okP,loB,hiB,qbr]
theorem qn1{s:List UInt8}{k:IntKind}{a:Int}:valP (.sslc true false) [.str s,.int k a]= .str ((s.drop (a:Int).toNat).take (((s.length:Int):Int).toNat-(a:Int).toNat)):=by simp[valP,loB,hiB]
theorem qqj{s:List UInt8}{k:IntKind}{a:Int}:okP (.sslc true false) [.str s,.int k a]=(0<=(a:Int)∧(a:Int)<=(s.length:Int)∧(s.length:Int)<=(s.length:Int)):=by simp[okP,loB,hiB,qbr]
theorem qfc{g:we}{z n:Nat}{f:Nat->wg}{k:IntKind}{a:Int}:valL g (.slc z true false) [.sl n f,.int k a]= .sl (((n:Int):Int).toNat-(a:Int).toNat) (λi=>f ((a:Int).toNat+i)):=by simp[valL,loB,hiB]
theorem qgI{g:we}{z n:Nat}{f:Nat->wg}{k:IntKind}{a:Int}:okL g (.slc z true false) [.sl n f,.int k a]=((0<=(a:Int)∧(a:Int)<=(n:Int)∧(n:Int)<=(n:Int))∧(0<n->(f 0).length=z)):=by simp[okL,loB,hiB,qbr,and_assoc]
theorem qnN{g:we}{z w v y p n:Nat}{k:IntKind}{a:Int}:valL g (.slc z true false) [.osl w v y p n,.int k a]= .osl w v y (p+(a:Int).toNat*y) (((n:Int):Int).toNat-(a:Int).toNat):=by simp[valL,loB,hiB]
theorem qp8{g:we}{z w v y p n:Nat}{k:IntKind}{a:Int}:okL g (.slc z true false) [.osl w v y p n,.int k a]=((0<=(a:Int)∧(a:Int)<=(n:Int)∧(n:Int)<=(n:Int))∧y=z∧qE g w v=true∧((a:Int)=0∨(a:Int)<n)):=by simp[okL,loB,hiB,qbr,and_assoc]
theorem qn0{s:List UInt8}{k:IntKind}{c:Int}:valP (.sslc false true) [.str s,.int k c]= .str ((s.drop (0:Int).toNat).take ((c:Int).toNat-(0:Int).toNat)):=by simp[valP,loB,hiB]
theorem qqi{s:List UInt8}{k:IntKind}{c:Int}:okP (.sslc false true) [.str s,.int k c]=(0<=(0:Int)∧(0:Int)<=c∧c<=(s.length:Int)):=by simp[okP,loB,hiB,qbr]
theorem qnO{g:we}{z n:Nat}{f:Nat->wg}{k:IntKind}{c:Int}:valL g (.slc z false true) [.sl n f,.int k c]= .sl ((c:Int).toNat-(0:Int).toNat) (λi=>f ((0:Int).toNat+i)):=by simp[valL,loB,hiB]
theorem qp9{g:we}{z n:Nat}{f:Nat->wg}{k:IntKind}{c:Int}:okL g (.slc z false true) [.sl n f,.int k c]=((0<=(0:Int)∧(0:Int)<=c∧c<=(n:Int))∧(0<n->(f 0).length=z)):=by simp[okL,loB,hiB,qbr,and_assoc]
theorem qnM{g:we}{z w v y p n:Nat}{k:IntKind}{c:Int}:valL g (.slc z false true) [.osl w v y p n,.int k c]= .osl w v y (p+(0:Int).toNat*y) ((c:Int).toNat-(0:Int).toNat):=by simp[valL,loB,hiB]
theorem qp7{g:we}{z w v y p n:Nat}{k:IntKind}{c:Int}:okL g (.slc z false true) [.osl w v y p n,.int k c]=((0<=(0:Int)∧(0:Int)<=c∧c<=(n:Int))∧y=z∧qE g w v=true∧((0:Int)=0∨(0:Int)<n)):=by simp[okL,loB,hiB,qbr,and_assoc]
theorem qnT{k l:IntKind}{a c:Int}:valP (.mm true) [.int k a,.int l c]= .int k (max a c):=rfl
theorem qnV{k l:IntKind}{a c:Int}:valP (.mm false) [.int k a,.int l c]= .int k (min a c):=rfl
theorem qnU{k l m:IntKind}{a c e:Int}:valP (.mm true) [.int k a,.int l c,.int m e]= .int k (max (max a c) e):=rfl
theorem qnW{k l m:IntKind}{a c e:Int}:valP (.mm false) [.int k a,.int l c,.int m e]= .int k (min (min a c) e):=rfl
theorem quA{x:Bool}{k l:IntKind}{a c:Int}:okP (.mm x) [.int k a,.int l c]=True:=by simp[okP,qbr]
theorem qiX{g:we}{n:Nat}{f:Nat->wg}:valL g .len [.sl n f]= .int .i64 n:=rfl
theorem ql4{g:we}{n:Nat}{f:Nat->wg}:okL g .len [.sl n f]=True:=rfl
theorem qiW{g:we}:valL g .len [.nl]= .int .i64 0:=rfl
theorem ql3{g:we}:okL g .len [.nl]=True:=rfl
theorem qnZ{s:List UInt8}:valP .slen [.str s]= .int .i64 s.length:=rfl
theorem qqh{s:List UInt8}:okP .slen [.str s]=True:=rfl
theorem qgb{g:we}{k v z p n:Nat}:valL g .len [.osl k v z p n]= .int .i64 n:=rfl
theorem qh9{g:we}{k v z p n:Nat}:okL g .len [.osl k v z p n]=(qE g k v=true):=rfl
theorem qiU{g:we}{z n:Nat}{f:Nat->wg}{k:IntKind}{i:Int}:valL g (.idxA z) [.sl n f,.int k i]= .ip (f i.toNat):=rfl
theorem ql1{g:we}{z n:Nat}{f:Nat->wg}{k:IntKind}{i:Int}:okL g (.idxA z) [.sl n f,.int k i]=((0<=i∧i<n)∧(f i.toNat).length=z):=rfl
theorem qga{g:we}{z q v y p n:Nat}{k:IntKind}{i:Int}:valL g (.idxA z) [.osl q v y p n,.int k i]= .op q v (p+i.toNat*y):=rfl
theorem qh8{g:we}{z q v y p n:Nat}{k:IntKind}{i:Int}:okL g (.idxA z) [.osl q v y p n,.int k i]=((0<=i∧i<n)∧y=z∧(cellsOf g q v).isSome=true):=rfl
theorem qiQ{g:we}{m z:Nat}{c:wg}{k:IntKind}{i:Int}:valL g (.idxArr m z) [.ip c,.int k i]= .ip ((c.drop (i.toNat*z)).take z):=rfl
theorem qlW{g:we}{m z:Nat}{c:wg}{k:IntKind}{i:Int}:okL g (.idxArr m z) [.ip c,.int k i]=((0<=i∧i<m)∧c.length=m*z):=rfl
theorem qiR{g:we}{m z q v p:Nat}{k:IntKind}{i:Int}:valL g (.idxArr m z) [.op q v p,.int k i]= .op q v (p+i.toNat*z):=rfl
theorem qlX{g:we}{m z q v p:Nat}{k:IntKind}{i:Int}:okL g (.idxArr m z) [.op q v p,.int k i]=((0<=i∧i<m)∧(cellsOf g q v).isSome=true):=rfl
theorem qiS{g:we}{p:Nat}{c:wg}:valL g (.fldA p) [.ip c]= .ip (c.drop p):=rfl
theorem qlZ{g:we}{p:Nat}{c:wg}:okL g (.fldA p) [.ip c]=(p<c.length):=rfl
theorem qiT{g:we}{p q v o:Nat}:valL g (.fldA p) [.op q v o]= .op q v (o+p):=rfl
theorem ql0{g:we}{p q v o:Nat}:okL g (.fldA p) [.op q v o]=((cellsOf g q v).isSome=true):=rfl
theorem qnH{g:we}{n:Option Nat}{c:wg}:valL g (.load n) [.ip c]=cut c 0 n:=rfl
theorem qp2{g:we}{n:Option Nat}{c:wg}:okL g (.load n) [.ip c]=jZ c 0 n:=rfl
theorem qnI{g:we}{n:Option Nat}{q v p:Nat}:valL g (.load n) [.op q v p]=cut ((cellsOf g q v).getD []) p n:=rfl
theorem qp3{g:we}{n:Option Nat}{q v p:Nat}:okL g (.load n) [.op q v p]=((cellsOf g q v).isSome=true∧jZ ((cellsOf g q v).getD []) p n):=rfl
theorem qnK{g:we}{c:wg}:valL g .nilchk [.ip c]= .ip c:=rfl
theorem qp5{g:we}{c:wg}:okL g .nilchk [.ip c]=True:=rfl
theorem qnL{g:we}{q v p:Nat}:valL g .nilchk [.op q v p]= .op q v p:=rfl
theorem qp6{g:we}{q v p:Nat}:okL g .nilchk [.op q v p]=((cellsOf g q v).isSome=true):=rfl
theorem qnJ{g:we}{f:Fn}{a c:wg}:valL g .nilchk [.fn f a c]= .fn f a c:=rfl
theorem qp4{g:we}{f:Nat}{a c:wg}:okL g .nilchk [.fn (.func f) a c]=True:=rfl
theorem qo5{c:wg}{p:Nat}:cut c p none=(c[p]?).getD .undef:=rfl
theorem qo6{c:wg}{p n:Nat}:cut c p (some n)= .agg ((c.drop p).take n):=rfl
theorem qpG{b w:Bool}:qO (.bool b) w=(b==w):=rfl
theorem qlk{g b w:Bool}:qO (.gd g (.bool b)) w=(g&&(b==w)):=rfl
theorem qll{b:Bool}:zk (.bool b)=true:=rfl
theorem qhU{g b:Bool}:zk (.gd g (.bool b))=true:=rfl
theorem qqm{c:Bool}{x y:AV}:Uz (.bool c) x y=((c=true->x.flag=true)∧(c=false->y.flag=true)):=rfl
theorem qmg{g c:Bool}{x y:AV}:Uz (.gd g (.bool c)) x y=(g=true∧(c=true->x.flag=true)∧(c=false->y.flag=true)):=rfl
theorem qmh{c p q:Bool}:jU (.bool c) (.bool p) (.bool q)= .bool ((c&&p)||(!c&&q)):=rfl
theorem qmn{c p q gc:Bool}:jU (.gd gc (.bool c)) (.bool p) (.bool q)= .bool ((c&&p)||(!c&&q)):=rfl
theorem qmi{c p q gq:Bool}:jU (.bool c) (.bool p) (.gd gq (.bool q))= .bool ((c&&p)||(!c&&q)):=rfl
theorem qmo{c p q gq gc:Bool}:jU (.gd gc (.bool c)) (.bool p) (.gd gq (.bool q))= .bool ((c&&p)||(!c&&q)):=rfl
theorem qmj{c p q gp:Bool}:jU (.bool c) (.gd gp (.bool p)) (.bool q)= .bool ((c&&p)||(!c&&q)):=rfl
theorem qmp{c p q gp gc:Bool}:jU (.gd gc (.bool c)) (.gd gp (.bool p)) (.bool q)= .bool ((c&&p)||(!c&&q)):=rfl
theorem qmk{c p q gp gq:Bool}:jU (.bool c) (.gd gp (.bool p)) (.gd gq (.bool q))= .bool ((c&&p)||(!c&&q)):=rfl
theorem qmq{c p q gp gq gc:Bool}:jU (.gd gc (.bool c)) (.gd gp (.bool p)) (.gd gq (.bool q))= .bool ((c&&p)||(!c&&q)):=rfl
theorem qxA{P:Program}{b:Nat}{Q:Ex->Nx}{t:wg}{h:we}:qW P b .skip Q t h=Q .normal t h:=(rfl)
theorem qBS{P:Program}{b:Nat}{Q:Ex->Nx}{t:wg}{h:we}{l:List RO}:qW P b (.ops l) Q t h=opsA P b l (Q .normal) t h:=(rfl)
theorem qBU{P:Program}{b:Nat}{Q:Ex->Nx}{t:wg}{h:we}{x y:C}:qW P b (.seq x y) Q t h=qW P b x (Ex.andThen (qW P b y Q) Q) t h:=(rfl)
theorem qxy{P:Program}{b:Nat}{Q:Ex->Nx}{t:wg}{h:we}{c:X}{x y:C}:qW P b (.cond c x y) Q t h=qfv (ev t c) (qW P b x Q) (qW P b y Q) t h:=(rfl)
theorem qs4{P:Program}{b:Nat}{Q:Ex->Nx}{t:wg}{h:we}{i:Nat}{x:C}:qW P b (.block i x) Q t h=qW P b x (Ex.inBlock i Q) t h:=(rfl)
theorem qxz{P:Program}{b:Nat}{Q:Ex->Nx}{t:wg}{h:we}{i:Nat}:qW P b (.exit i) Q t h=Q (.exit i) t h:=(rfl)
theorem qBT{P:Program}{b:Nat}{Q:Ex->Nx}{t:wg}{h:we}:qW P b .ret Q t h=Q .ret t h:=(rfl)
theorem qEa{K:Nx}{Q:Ex->Nx}{t:wg}{h:we}:Ex.andThen K Q .normal t h=K t h:=(rfl)
theorem qD9{K:Nx}{Q:Ex->Nx}{t:wg}{h:we}{i:Nat}:Ex.andThen K Q (.exit i) t h=Q (.exit i) t h:=(rfl)
theorem qEb{K:Nx}{Q:Ex->Nx}{t:wg}{h:we}:Ex.andThen K Q .ret t h=Q .ret t h:=(rfl)
theorem qEx{i:Nat}{Q:Ex->Nx}{t:wg}{h:we}:Ex.inBlock i Q .normal t h=Q .normal t h:=(rfl)
theorem qEy{i:Nat}{Q:Ex->Nx}{t:wg}{h:we}:Ex.inBlock i Q .ret t h=Q .ret t h:=(rfl)
theorem qEw{i j:Nat}{Q:Ex->Nx}{t:wg}{h:we}:Ex.inBlock i Q (.exit j) t h=if j=i then Q .normal t h else Q (.exit j) t h:=(rfl)
end AF
end
section
namespace AF
open Go
attribute [go_sem] qAM qnP qqa qzt qAl qzu qAm qzv qAn qzw qAo qzx qAp qzy qAq qzz qAr qzA qAs qtX qvc qpE qqL qEp qEo qiD qkW qim qhw qnm qpm qm3 qko qnq qpq qm7 qks qq8 qtM qqV qoY qno qpo qm5 qkq qnk qpk qm1 qnr qpr qkt qq5 qtJ qqS qoV qq7 qtL qqU qoX qiH qk0 qip qhz qq6 qtK qqT qoW qq3 qtH qqR qoT qns qps qm8 qku qfZ qhO qfR qfr qnl qpl qm2 qkn qf0 qhP qfS qfs qf3 qhS qkm qq4 qtI qFg qDp qDc qBl qFh qDq qAQ qvF qBk qDe qvD qrr qAU qAY qvO qAX qvN qAZ qvP qFf qDf qBm qAS qvK qAR qvJ qAT qvL qro qn8 qDi qAW qvM qAV qvC qDd qvH qvG qAO qDa qAN qAP qvI qvE qDg qtE qpf qiL qf4 qk4 qhT qjE qji qjR qjv qjL qjp qjN qjr qjO qjs qjP qjt qjQ qju qjG qjk qjM qjq qjK qjo qjJ qjn qjI qjm qjH qjl qjF qjj qoz qoy qjS qjw qei qeh qjT qjx qjU qjy qjZ qjD qjY qjC qjX qjB qjW qjA qjV qjz qnQ qqb qrl quC qrk quB qnR qqc qcy qdA qcl qcu qbx qcd qaF qeO qd2 qeN qhB qiC qkV qil qhv qlN qh3 qh4 qur quq qup qpV qrh qux qrj quz qtj qtk qri quy qiZ ql5 qhL qfy qkS qhK qnX qqf qnY qqg qi1 ql7 qn1 qqj qfc qgI qnN qp8 qn0 qqi qnO qp9 qnM qp7 qnT qnV qnU qnW quA qiX ql4 qiW ql3 qnZ qqh qgb qh9 qiU ql1 qga qh8 qiQ qlW qiR qlX qiS qlZ qiT ql0 qnH qp2 qnI qp3 qnK qp5 qnL qp6 qnJ qp4 qo5 qo6 qpG qlk qll qhU qqm qmg qmh qmn qmi qmo qmj qmp qmk qmq qxA qBS qBU qxy qs4 qxz qBT qEa qD9 qEb qEx qEy qEw
attribute [go_sem] and_true true_and List.drop_zero List.drop_succ_cons List.getElem?_cons_zero List.getElem?_cons_succ Option.getD_some List.length_cons List.length_nil Int.toNat_natCast beq_true imp_self and_self implies_true Bool.and_true Bool.and_false Bool.or_false decide_eq_true_eq Bool.and_eq_true
theorem qmQ(t:wg)(h:we):kp t h []=True:=rfl
theorem qmR(n:Nat)(l:List RV)(t:wg)(h:we):kp t h (.tmp n::l)=kp t h l:=by simp[kp,RV.ok]
theorem qii(t:wg)(h:we):zY t h []= []:=rfl
theorem qij(n:Nat)(l:List RV)(t:wg)(h:we):zY t h (.tmp n::l)=zD n t::zY t h l:=rfl
theorem qqH(v:AV):qfI [v]=v:=rfl
theorem qqI(v u:AV)(l:wg):qfI (v::u::l)= .tup (v::u::l):=rfl
theorem qhC(c:Bool)(A B:Nx)(t:wg)(h:we):qfv (.bool c) A B t h=((c=true->A t h)∧(c=false->B t h)):=rfl
theorem qm{n:Int}(h0: -9223372036854775808<=n)(h1:n<=9223372036854775807):IntKind.i64.wrap n=n:=by
 have e1:(2:Int)^IntKind.bits IntKind.i64=18446744073709551616:=rfl;have e2:(2:Int)^(IntKind.bits IntKind.i64-1)=9223372036854775808:=rfl;have e3:IntKind.signed IntKind.i64=true:=rfl;unfold IntKind.wrap;rw[e1,e2,e3];simp only[Bool.true_and,decide_eq_true_eq];split<;>omega
theorem qdn{rs:List RV}{h0:we}{K:AV->we->Prop}{t:wg}{hh tl:we}{r:AV}(e:hh=h0++tl)(hok:kp t hh rs)(hK:K r h0)(hv:VLe (frz (λk=>decide (h0.length<=k)) hh 8 (qfI (zY t hh rs))) r):
  fnQ rs h0 K .ret t hh:=by subst e;exact qpx hok hK hv
theorem qt{P:Program}{b:Nat}{x:C}{Q:Ex->Nx}{ι:Type}{t:wg}{h:we}(T:ι->wg)(H:ι->we)(inv:ι->Prop)(m:ι->Nat)(i0:ι)(h0:inv i0)(hw:Wk t h (T i0) (H i0))
  (round: ∀i,inv i-> ∀K:Nx,(∀t' h' j,inv j->m j<m i->Wk t' h' (T j) (H j)->K t' h')->qW P b x (Ex.andThen K Q) (T i) (H i)):qW P b (.loop x) Q t h:=by
 refine⟨λn t h=> ∃i,inv i∧m i=n∧t=T i∧h=H i,⟨m i0,T i0,H i0,hw,i0,h0,rfl,rfl,rfl⟩,?_⟩;rintro n t' h' ⟨i,hi,rfl,rfl,rfl⟩;exact round i hi _ (λt'' h'' j hj hlt hw=>⟨m j,T j,H j,hlt,hw,j,hj,rfl,rfl,rfl⟩)
def zg(n:Nat)(l:List (Nat×AV)):wg:=l.foldl (λt p=>jd p.1 t p.2) (List.replicate n .undef)
theorem qaI.nil:qaI [] []:=trivial
theorem qb(a:AV):VLe a .undef=True:=by simp[VLe.undef]
theorem qg(a:AV):VLe a a=True:=by simp[VLe.refl]
theorem qe{k:IntKind}{a b:Int}(h:a=b):VLe (.int k a) (.int k b):=h▸VLe.refl _
theorem qh:qaI [] []=True:=rfl
theorem qf{a b:AV}{l m:wg}:qaI (a::l) (b::m)=(VLe a b∧qaI l m):=rfl
theorem qc{rs:List RV}{h:we}{t:wg}{r:AV}(hok:kp t h rs)(hv:VLe (frz (λk=>decide (h.length<=k)) h 8 (qfI (zY t h rs))) r):fnQ rs h (λr1 h1=>r1=r∧h1=h) .ret t h:=
 qdn (tl:= []) (by simp) hok ⟨rfl,rfl⟩ hv
theorem qa{rs:List RV}{h tl:we}{t:wg}{r:AV}(hok:kp t (h++tl) rs)(hv:VLe (frz (λk=>decide (h.length<=k)) (h++tl) 8 (qfI (zY t (h++tl) rs))) r):fnQ rs h (λr1 h1=>r1=r∧h1=h) .ret t (h++tl):=
 qdn rfl hok ⟨rfl,rfl⟩ hv
section
variable {fz : Nat -> Bool} {h : we} {n : Nat}
theorem frz_int{k:IntKind}{a:Int}:frz fz h (n+1) (.int k a)= .int k a:=rfl
theorem frz_bool{a:Bool}:frz fz h (n+1) (.bool a)= .bool a:=rfl
theorem frz_str{a:List UInt8}:frz fz h (n+1) (.str a)= .str a:=rfl
theorem frz_sl{m:Nat}{f:Nat->wg}:frz fz h (n+1) (.sl m f)= .sl m f:=rfl
theorem frz_nl:frz fz h (n+1) .nl= .nl:=rfl
theorem frz_nilp:frz fz h (n+1) .nilp= .nilp:=rfl
theorem frz_nilfn:frz fz h (n+1) .nilfn= .nilfn:=rfl
theorem frz_ifc:frz fz h (n+1) .ifc= .ifc:=rfl
theorem frz_nilif:frz fz h (n+1) .nilif= .nilif:=rfl
theorem frz_undef:frz fz h (n+1) .undef= .undef:=rfl
theorem frz_ip{cs:wg}:frz fz h (n+1) (.ip cs)= .ip cs:=rfl
theorem frz_agg{cs:wg}:frz fz h (n+1) (.agg cs)= .agg (cs.map (frz fz h n)):=rfl
theorem frz_tup{cs:wg}:frz fz h (n+1) (.tup cs)= .tup (cs.map (frz fz h n)):=rfl
theorem frz_fn{f:Fn}{a b:wg}:frz fz h (n+1) (.fn f a b)= .fn f (a.map (frz fz h n)) (b.map (frz fz h n)):=rfl
theorem frz_gd{g:Bool}{v:AV}:frz fz h (n+1) (.gd g v)= .gd g (frz fz h n v):=rfl
end
attribute [go_sem] frz_int frz_bool frz_str frz_sl frz_nl frz_nilp frz_nilfn frz_ifc frz_nilif frz_undef frz_ip frz_agg frz_tup frz_fn frz_gd if_true if_false List.map_cons List.map_nil
attribute [go_sem] qhC qmQ qmR qii qij qqH qqI
end AF
end
section
namespace AF
open Go
section
variable {h : we} {l : we} {n k v : Nat} {o : AObj} {ty : TypeId} {cs : wg}
theorem getO_app0:qq h.length (h++l)=l[0]? :=by unfold qq;rw[List.getElem?_append_right (Nat.le_refl _),Nat.sub_self]
theorem getO_app:qq (h.length+n) (h++l)=l[n]? :=by unfold qq;rw[List.getElem?_append_right (by omega),Nat.add_sub_cancel_left]
theorem setO_app0:qn h.length (h++l) o=h++l.set 0 o:=by unfold qn;rw[List.set_append_right _ _ (Nat.le_refl _),Nat.sub_self]
theorem setO_app:qn (h.length+n) (h++l) o=h++l.set n o:=by unfold qn;rw[List.set_append_right _ _ (by omega),Nat.add_sub_cancel_left]
theorem verOf_mem:qo (some (.mem v ty cs))=v:=rfl
theorem verOf_emp:qo (some (.emp v))=v:=rfl
theorem tyOf_mem:qiO (some (.mem v ty cs))=ty:=rfl
theorem site_app:qH (h++l) (h.length+n)=qH l n:=by unfold qH;rw[getO_app];rfl
theorem site_app0:qH (h++l) h.length=qH l 0:=by unfold qH;rw[getO_app0];rfl
theorem site_0_mem{v:Nat}:qH (.mem v ty cs::l) 0=true:=rfl
theorem site_0_emp{v:Nat}:qH (.emp v::l) 0=true:=rfl
theorem site_s:qH (o::l) (n+1)=qH l n:=rfl
theorem cellsOf_app:cellsOf (h++l) (h.length+n) v=cellsOf l n v:=by unfold cellsOf;rw[getO_app];rfl
theorem cellsOf_app0:cellsOf (h++l) h.length v=cellsOf l 0 v:=by unfold cellsOf;rw[getO_app0];rfl
theorem cellsOf_0{w:Nat}:cellsOf (.mem w ty cs::l) 0 v=if w=v then some cs else none:=rfl
theorem cellsOf_s:cellsOf (o::l) (n+1) v=cellsOf l n v:=rfl
theorem liveS_app:qE (h++l) (h.length+n) v=qE l n v:=by unfold qE;rw[getO_app];rfl
theorem liveS_0_mem{w:Nat}:qE (.mem w ty cs::l) 0 v=(w==v):=rfl
theorem liveS_0_emp{w:Nat}:qE (.emp w::l) 0 v=(w==v):=rfl
theorem liveS_s:qE (o::l) (n+1) v=qE l n v:=rfl
theorem tyOk_mem{t:TypeId}:qi7 (some (.mem v t cs)) ty=(t==ty):=rfl
theorem tyOk_emp:qi7 (some (.emp v)) ty=true:=rfl
theorem b_add0{b:Nat}:b+0=b:=rfl
theorem appO_mem{t:TypeId}{ds:wg}{c m:Nat}:qgh (some (.mem k t ds)) ty v c m cs= .mem (v+1) ty (ds.take c++cs):=rfl
theorem appO_emp{c m:Nat}:qgh (some (.emp k)) ty v c m cs=if m=0 then .emp (v+1) else .mem (v+1) ty cs:=rfl
end
section
variable {b : Nat} {h : we} {t : wg} {d : Option Nat} {nx : wg -> we -> Prop}
theorem qxN{j sz:Nat}{ty:TypeId}:effE b h (.nilo j sz ty) [] t d nx=(qH h (b+j)=true∧nx (qT t d (.osl (b+j) (qo (qq (b+j) h)+1) sz 0 0)) (qn (b+j) h (.emp (qo (qq (b+j) h)+1)))):=(rfl)
theorem qtt{j:Nat}{ty:TypeId}{z:wg}:effE b h (.alloc j ty z) [] t d nx=(qH h (b+j)=true∧nx (qT t d (.op (b+j) (qo (qq (b+j) h)+1) 0)) (qn (b+j) h (.mem (qo (qq (b+j) h)+1) ty z))):=(rfl)
theorem qB8{j:Nat}{ty:TypeId}{v:AV}:effE b h (.box j ty) [v] t d nx=((qH h (b+j)=true∧v.solid=true)∧nx (qT t d (.op (b+j) (qo (qq (b+j) h)+1) 0)) (qn (b+j) h (.mem (qo (qq (b+j) h)+1) ty v.cells))):=(rfl)
theorem qtw{n k ver off:Nat}{v:AV}:effE b h (.store n) [.op k ver off,v] t d nx=(((cellsOf h k ver).isSome=true∧v.solid=true∧v.cells.length=n∧off+n<=((cellsOf h k ver).getD []).length)∧
  nx (qT t d (.tup [])) (qn k h (.mem ver (qiO (qq k h)) (((cellsOf h k ver).getD []).take off++v.cells++((cellsOf h k ver).getD []).drop (off+n))))):=(rfl)
theorem qtv{j sz:Nat}{ty:TypeId}{z:wg}{bytes:Nat}{l c:Int}:effE b h (.mkslc j sz ty z bytes) [.int .i64 l,.int .i64 c] t d nx=((qH h (b+j)=true∧z.length=sz∧0<=l∧l=c∧c*(bytes:Int)<=140737488355328∧c<=140737488355328)∧
   nx (qT t d (.osl (b+j) (qo (qq (b+j) h)+1) sz 0 l.toNat)) (qn (b+j) h (.mem (qo (qq (b+j) h)+1) ty (zf z l.toNat)))):=(rfl)
theorem qxM{j sz n:Nat}{ty:TypeId}{z:wg}{ps:List (Nat×Nat)}{vs:wg}:effE b h (.bslc j sz n ty z ps) vs t d nx=((qH h (b+j)=true∧z.length=sz∧c8 (n*sz) ps vs∧n<=140737488355328)∧
   nx (qT t d (.osl (b+j) (qo (qq (b+j) h)+1) sz 0 n)) (qn (b+j) h (.mem (qo (qq (b+j) h)+1) ty (gP (zf z n) ps vs)))):=by
 cases vs<;>rfl
theorem qtu{j sz:Nat}{ty:TypeId}{bytes:Nat}{y:AV}:effE b h (.app j sz ty bytes) [.nl,y] t d nx=(((qj h y).isSome=true∧qH h (b+j)=true∧((qj h y).getD (0,[])).2.length=((qj h y).getD (0,[])).1*sz∧
    (((qj h y).getD (0,[])).1:Int)*bytes<=140737488355328∧(((qj h y).getD (0,[])).1:Int)<=140737488355328)∧
   nx (qT t d (.osl (b+j) (qo (qq (b+j) h)+1) sz 0 ((qj h y).getD (0,[])).1))
    (qn (b+j) h (if ((qj h y).getD (0,[])).1=0 then .emp (qo (qq (b+j) h)+1) else .mem (qo (qq (b+j) h)+1) ty ((qj h y).getD (0,[])).2))):=(rfl)
theorem qB7{j sz:Nat}{ty:TypeId}{bytes k ver sz' off m:Nat}{y:AV}:effE b h (.app j sz ty bytes) [.osl k ver sz' off m,y] t d nx=(((qj h y).isSome=true∧qE h k ver=true∧qi7 (qq k h) ty=true∧m*sz<=((cellsOf h k ver).getD []).length∧qa9 (.osl k ver sz' off m) y=true∧sz'=sz∧off=0∧
    ((qj h y).getD (0,[])).2.length=((qj h y).getD (0,[])).1*sz∧
    ((m+((qj h y).getD (0,[])).1:Nat):Int)*bytes<=140737488355328∧((m+((qj h y).getD (0,[])).1:Nat):Int)<=140737488355328)∧
   nx (qT t d (.osl k (ver+1) sz 0 (m+((qj h y).getD (0,[])).1)))
    (qn k h (qgh (qq k h) ty ver (m*sz) ((qj h y).getD (0,[])).1 ((qj h y).getD (0,[])).2))):=(rfl)
theorem qxL{j:Nat}{ty:TypeId}{s:List UInt8}{k ver sz' off m:Nat}:effE b h (.apps j ty) [.osl k ver sz' off m,.str s] t d nx=((qE h k ver=true∧qi7 (qq k h) ty=true∧m<=((cellsOf h k ver).getD []).length∧sz'=1∧off=0∧((m+s.length:Nat):Int)<=140737488355328)∧
   nx (qT t d (.osl k (ver+1) 1 0 (m+s.length)))
    (qn k h (qgh (qq k h) ty ver m s.length (zC s)))):=(rfl)
theorem qmx{n:Nat}{v:AV}:qT t (some n) v=jd n t v:=rfl
theorem qmw{v:AV}:qT t none v=t:=rfl
theorem qdT:qj h .nl=some (0,[]):=rfl
theorem qdU{n:Nat}{f:Nat->wg}:qj h (.sl n f)=some (n,(List.range n).flatMap f):=rfl
end
attribute [go_sem] getO_app0 getO_app setO_app0 setO_app verOf_mem verOf_emp tyOf_mem site_app site_app0 site_0_mem site_0_emp site_s cellsOf_app cellsOf_app0 cellsOf_0 cellsOf_s liveS_app liveS_0_mem liveS_0_emp liveS_s tyOk_mem tyOk_emp b_add0 appO_mem appO_emp
attribute [go_sem] qxN qtt qB8 qtw qtv qxM qtu qB7 qxL qmx qmw qdT qdU
attribute [go_sem] List.set_cons_zero List.set_cons_succ Option.isSome_some List.take_zero List.take_succ_cons List.take_nil List.drop_nil List.nil_append List.cons_append List.append_nil Nat.reduceAdd Nat.reduceMul Nat.reduceSub Nat.reduceLeDiff Nat.reduceEqDiff Nat.zero_add
end AF
end
section
namespace AF
open Go
theorem qI{P:Program}{f:Nat}{p:Bool}{vs:wg}{d:Option Nat}{nx:Nx}{t:wg}{h:we}{r:AV}(hc:ACalls P f (strips vs) h r h)(hf:flags vs)(hn:nx (qT t d r) h):qka P f p vs d nx t h:=
 ⟨hf,r,h,hc,λ_=>rfl,hn⟩
theorem qy{P:Program}{f:Nat}{vs:wg}{d:Option Nat}{nx:Nx}{t:wg}{h h':we}{r:AV}(hc:ACalls P f (strips vs) h r h')(hf:flags vs)(hn:nx (qT t d r) h'):qka P f false vs d nx t h:=
 ⟨hf,r,h',hc,by simp,hn⟩
theorem qN{P:Program}{f:Nat}{p g:Bool}{vs:wg}{d:Option Nat}{nx:Nx}{t:wg}{h:we}{r:AV}(hc:g=true->flags vs∧ACalls P f (strips vs) h r h)(hn:nx (qT t d (.gd g r)) h):qkb P f p g vs d nx t h:=
 ⟨r,h,λe=>⟨(hc e).1,(hc e).2,λ_=>rfl⟩,λ_=>rfl,hn⟩
theorem qCY{t:wg}{h:we}:kp t h []:=trivial
theorem qCZ{t:wg}{h:we}{n:Nat}{l:List RV}(hl:kp t h l):kp t h (.tmp n::l):=⟨trivial,hl⟩
theorem qtO:flags []:=trivial
theorem qtN{a:AV}{l:wg}(h:a.flag=true)(t:flags l):flags (a::l):=⟨h,t⟩
theorem ql{P:Program}{f:Nat}{p:Bool}{vs:wg}{d:Option Nat}{nx:Nx}{t:wg}{h:we}(r:AV)(hn:nx (qT t d (.gd false r)) h):qkb P f p false vs d nx t h:=by
 refine⟨r,h,?_,λ_=>rfl,hn⟩;intro e;cases e
theorem qd{a b:Bool}(h:a=b):VLe (.bool a) (.bool b):=h▸VLe.refl _
theorem qz{a b:List UInt8}(h:a=b):VLe (.str a) (.str b):=h▸VLe.refl _
theorem qv8{n m:Nat}{f g:Nat->wg}(e:n=m)(h: ∀i,i<m->f i=g i):VLe (.sl n f) (.sl m g):=by
 subst e;intro w σ x hx;have h1:=zL rfl hx;cases h1 with
 |nilsl=>exact .imm .nilsl
 |sl sz b off cap vals hn hm hb hlt hsz hc h1 hv=>
  refine .imm (.sl sz b off cap vals hn hm hb hlt (λi hi=> ?_) hc h1 (λi j c hi hj=> ?_))
  ·rw[<-h i hi];exact hsz i hi
  ·rw[<-h i hi]at hj;exact hv i j c hi hj
theorem zB{f:Nat->wg}:VLe .nl (.sl 0 f):=by
 intro w σ x hx;have h1:=zL rfl hx;cases h1 with
 |nl=>exact .imm .nilsl
theorem qsu{l m:wg}(h:qaI l m):VLe (.tup l) (.tup m):=by
 intro w σ x hx;obtain⟨vs,rfl,hl,hv⟩:=qfe hx;refine .tup (by rw[hl,h.length]) (λi c x hc hx=> ?_);obtain⟨a,ha,hle⟩:=h.get i c hc;exact hle w σ x (hv i a x ha hx)
def qrA(v:AV)(h:we)(m:Option Nat):Prop:=
 match v with
 | .op k ver off=>okL h (.load m) [.op k ver off]
 |_=>False
theorem qih{n:Nat}{m:Option Nat}{l:List RV}{t:wg}{h:we}:kp t h (.cell n m::l)=(qrA (zD n t) h m∧kp t h l):=rfl
theorem qfN{n:Nat}{m:Option Nat}{l:List RV}{t:wg}{h:we}:zY t h (.cell n m::l)=valL h (.load m) [zD n t]::zY t h l:=rfl
theorem qkk{k ver off:Nat}{h:we}{m:Option Nat}:qrA (.op k ver off) h m=okL h (.load m) [.op k ver off]:=rfl
attribute [go_sem] qih qfN qkk
theorem qfm:jt [] [] []=some true:=rfl
attribute [go_sem] qfm Option.map_some Bool.true_bne Bool.false_bne Bool.bne_false
theorem quD{a b:Bool}:(a|| !a&&b)=(a||b):=by cases a<;>simp
theorem qBH{a:Bool}:(a==false)= !a:=by cases a<;>rfl
attribute [go_sem] quD qBH Bool.not_eq_true' Bool.or_eq_true decide_eq_false_iff_not Bool.or_eq_false_iff Bool.not_eq_false' Bool.and_eq_false_imp Bool.true_or Bool.or_true Bool.false_or Bool.true_and Bool.not_true Bool.not_false decide_not Bool.not_not
end AF
end
section
namespace AF
open Go
theorem kZ{rs:List RV}{h0 h' tl:we}{K:AV->we->Prop}{t:wg}{r:AV}(hok:kp t (h'++tl) rs)(hl:h'.length=h0.length)(hlow: ∀o∈h',o∈h0∨lowO h0.length o)(hK:K r h')
  (hv:VLe (frz (λk=>decide (h0.length<=k)) (h'++tl) 8 (qfI (zY t (h'++tl) rs))) r):fnQ rs h0 K .ret t (h'++tl):=
 ⟨r,h',hK,hok,⟨tl,rfl⟩,hl,hlow,VOut.of 8 hv⟩
theorem zK{rs:List RV}{h0 h' tl:we}{K:AV->we->Prop}{t:wg}{r:AV}(hok:kp t (h'++tl) rs)(hl:h'.length=h0.length)(hlow: ∀o∈h',o∈h0∨lowO h0.length o)(hK:K r h')
  (hv:VLe (frz (λk=>decide (h0.length<=k)) (h'++tl) 8 (qfI (zY t (h'++tl) rs))) r):fnQ rs h0 K .normal t (h'++tl):=
 ⟨r,h',hK,hok,⟨tl,rfl⟩,hl,hlow,VOut.of 8 hv⟩
section
variable {k v : Nat} {h l : we} {o o' : AObj} {ty : TypeId} {cs : wg}
theorem zx(hk:k<h.length):qq k (h++l)=qq k h:=by unfold qq;rw[List.getElem?_append_left hk]
theorem zy(hk:k<h.length):qn k (h++l) o=qn k h o++l:=by unfold qn;rw[List.set_append_left _ _ hk]
theorem qL:(qn k h o).length=h.length:=by unfold qn;simp
theorem jh(hk:k<h.length):qq k (qn k h o)=some o:=by unfold qq qn;rw[List.getElem?_set_self hk]
theorem kR:qn k (qn k h o) o'=qn k h o':=by unfold qn;rw[List.set_set]
theorem qQ(e:qq k h=some (.mem v ty cs)):cellsOf h k v=some cs:=by unfold cellsOf;rw[e];simp
theorem zE(e:qq k h=some o):k<h.length:=by unfold qq at e;exact (List.getElem?_eq_some_iff.1 e).1
theorem jc{x:AObj}(hx:x∈qn k h o):x∈h∨x=o:=by
 unfold qn at hx;exact List.mem_or_eq_of_mem_set hx
end
section
variable {k v w n : Nat} {h l : we} {o o' : AObj} {ty : TypeId} {cs : wg}
theorem qbE(hk:k<h.length):qq k (qn k h o++l)=some o:=by rw[zx (by rw[qL];exact hk),jh hk]
theorem kU(hk:k<h.length):cellsOf (qn k h (.mem w ty cs)++l) k v=if w=v then some cs else none:=by unfold cellsOf;rw[qbE hk]
theorem qdO(hk:k<h.length):qn k (qn k h o++l) o'=qn k h o'++l:=by rw[zy (by rw[qL];exact hk),kR]
theorem getO_seta:qq (h.length+n) (qn k h o++l)=l[n]? :=by
 have:= @getO_app (qn k h o) l n
 rwa [qL]at this
theorem getO_seta0:qq h.length (qn k h o++l)=l[0]? :=by
 have:= @getO_app0 (qn k h o) l
 rwa [qL]at this
theorem setO_seta:qn (h.length+n) (qn k h o++l) o'=qn k h o++l.set n o':=by
 have:= @setO_app (qn k h o) l n o'
 rwa [qL]at this
theorem setO_seta0:qn h.length (qn k h o++l) o'=qn k h o++l.set 0 o':=by
 have:= @setO_app0 (qn k h o) l o'
 rwa [qL]at this
theorem cellsOf_seta:cellsOf (qn k h o++l) (h.length+n) v=cellsOf l n v:=by unfold cellsOf;rw[getO_seta];rfl
theorem cellsOf_seta0:cellsOf (qn k h o++l) h.length v=cellsOf l 0 v:=by unfold cellsOf;rw[getO_seta0];rfl
theorem site_seta:qH (qn k h o++l) (h.length+n)=qH l n:=by unfold qH;rw[getO_seta];rfl
theorem site_seta0:qH (qn k h o++l) h.length=qH l 0:=by unfold qH;rw[getO_seta0];rfl
end
attribute [go_sem] getO_seta getO_seta0 setO_seta setO_seta0 cellsOf_seta cellsOf_seta0 site_seta site_seta0
theorem jz{k:Nat}{h:we}{o:AObj}(e:qq k h=some o):qn k h o=h:=by
 unfold qq at e;unfold qn;obtain⟨h1,h2⟩:=List.getElem?_eq_some_iff.1 e;rw[<-h2];exact List.set_getElem_self h1
theorem qqG:qfI []= .tup []:=rfl
attribute [go_sem] qqG
end AF
end
section
namespace AF
open Go
def qDP(c:Option wg)(g:AV->AV)(off:Nat):AV:=
 match c with
 |some cs=> .ip ((cs.drop off).map g)
 |none=> .undef
def qg0(o:Option AObj)(ver sz off len:Nat)(g:AV->AV):AV:=
 match o with
 |some (.mem ve _ cs)=>if ve=ver∧off+len*sz<=cs.length then .sl len (λi=>((cs.drop (off+i*sz)).take sz).map g) else .undef
 |some (.emp ve)=>if ve=ver then .nl else .undef
 |_=> .undef
section
variable {fz : Nat -> Bool} {h : we} {n k ver sz off len : Nat}
theorem rei_op:rei fz h (n+1) (.op k ver off)=if fz k=true then qDP (cellsOf h k ver) (rei fz h n) off else .undef:=rfl
theorem rei_osl:rei fz h (n+1) (.osl k ver sz off len)=if fz k=true then qg0 (qq k h) ver sz off len (rei fz h n) else .undef:=rfl
theorem frz_op:frz fz h (n+1) (.op k ver off)=if fz k=true then rei fz h (n+1) (.op k ver off) else .op k ver off:=rfl
theorem frz_osl:frz fz h (n+1) (.osl k ver sz off len)=if fz k=true then rei fz h (n+1) (.osl k ver sz off len) else .osl k ver sz off len:=rfl
theorem ipOf_some{cs:wg}{g:AV->AV}:qDP (some cs) g off= .ip ((cs.drop off).map g):=rfl
theorem slOf_mem{cs:wg}{g:AV->AV}{ve:Nat}{ty:TypeId}:qg0 (some (.mem ve ty cs)) ver sz off len g=if ve=ver∧off+len*sz<=cs.length then .sl len (λi=>((cs.drop (off+i*sz)).take sz).map g) else .undef:=rfl
theorem slOf_emp{g:AV->AV}{ve:Nat}:qg0 (some (.emp ve)) ver sz off len g=if ve=ver then .nl else .undef:=rfl
theorem rei_int{k:IntKind}{a:Int}:rei fz h (n+1) (.int k a)= .int k a:=rfl
theorem rei_bool{a:Bool}:rei fz h (n+1) (.bool a)= .bool a:=rfl
theorem rei_str{a:List UInt8}:rei fz h (n+1) (.str a)= .str a:=rfl
theorem rei_sl{m:Nat}{f:Nat->wg}:rei fz h (n+1) (.sl m f)= .sl m f:=rfl
theorem rei_nl:rei fz h (n+1) .nl= .nl:=rfl
theorem rei_ip{cs:wg}:rei fz h (n+1) (.ip cs)= .ip cs:=rfl
theorem rei_agg{cs:wg}:rei fz h (n+1) (.agg cs)= .agg (cs.map (rei fz h n)):=rfl
theorem rei_tup{cs:wg}:rei fz h (n+1) (.tup cs)= .tup (cs.map (rei fz h n)):=rfl
theorem rei_fn{f:Fn}{a b:wg}:rei fz h (n+1) (.fn f a b)= .fn f (a.map (rei fz h n)) (b.map (rei fz h n)):=rfl
theorem rei_nilp:rei fz h (n+1) .nilp= .nilp:=rfl
theorem rei_undef:rei fz h (n+1) .undef= .undef:=rfl
end
attribute [go_sem] rei_op rei_osl frz_op frz_osl ipOf_some slOf_mem slOf_emp rei_int rei_bool rei_str rei_sl rei_nl rei_ip rei_agg rei_tup rei_fn rei_nilp rei_undef Nat.le_add_right Nat.le_refl Nat.mul_one Nat.one_mul
theorem qrs{P:Program}{b:Nat}{r:List RO}{K:Nx}{t:wg}{h:we}{d:Option Nat}{xs:List X}{j:Nat}{u:Bool}:opsA P b (⟨d,some (j,u),.callv,xs⟩::r) K t h=
  (zk (zD j t)=true∧(qO (zD j t) u=true->flags (evs t xs)∧qab P (strips (evs t xs)) d (opsA P b r K) t h)∧(qO (zD j t) u=false->opsA P b r K (qT t d .undef) h)):=by simp only[opsA,stepO,j0,R.kd]
theorem qkf{P:Program}{k:Nat}{args:wg}{d:Option Nat}{nx:Nx}{t:wg}{h:we}:qab P (.yld k::args) d nx t h=((∃s ts L,qq k h=some (.lp s ts L))∧jD P k args h λv h'=>nx (qT t d v) h'):=(rfl)
theorem qcz:valP (.un .not) [.undef]= .bool true:=rfl
theorem qml{g q:Bool}:jU (.bool false) (.gd g .undef) (.bool q)= .bool q:=rfl
attribute [go_sem] qrs qkf qcz qml true_implies false_implies Bool.false_eq_true Bool.true_eq_false
end AF
end
section
namespace AF
open Go
theorem ql8{P:Program}{b:Nat}{l:List RO}: ∀ {nx nx':Nx} {t:wg} {h:we},(∀t h,nx t h->nx' t h)->opsA P b l nx t h->opsA P b l nx' t h:=by
 induction l with
 |nil=>intro nx nx' t h hn H;exact hn _ _ H
 |cons o l ih=>intro nx nx' t h hn H;exact j9 (λt h H=>ih hn H) H
theorem qdI{h0:we}{t:wg}{Q Q':Ex->Nx}{h:we}(hq: ∀e t h,Q e t h->Q' e t h)(H:qdH h0 t Q h):qdH h0 t Q' h:=by
 obtain⟨hh,s,ts,L,h1,h2,h3,h4⟩:=H;refine⟨hh,s,ts,L,h1,h2,h3,?_⟩;cases s with
 |ready=>exact hq _ _ _ h4
 |ret=>exact hq _ _ _ h4
 |exit id=>exact hq _ _ _ h4
 |busy=>exact h4
theorem UH{P:Program}{b:Nat}{x:C}: ∀ {Q Q':Ex->Nx} {t:wg} {h:we},(∀e t h,Q e t h->Q' e t h)->qW P b x Q t h->qW P b x Q' t h:=by
 induction x with
 |skip=>intro Q Q' t h hq H;exact hq _ _ _ H
 |ops l=>intro Q Q' t h hq H;exact ql8 (λt h H=>hq _ _ _ H) H
 |seq x y ihx ihy=>
  intro Q Q' t h hq H;refine ihx (λe t h H=> ?_) H;cases e with
  |normal=>exact ihy hq H
  |exit id=>exact hq _ _ _ H
  |ret=>exact hq _ _ _ H
 |cond c x y ihx ihy=>
  intro Q Q' t h hq H;simp only[qW,qfv]at*;split at H
  ·exact⟨λe=>ihx hq (H.1 e),λe=>ihy hq (H.2 e)⟩
  ·exact⟨ihx hq H.1,ihy hq H.2⟩
  ·exact H.elim
 |block id x ih=>
  intro Q Q' t h hq H;refine ih (λe t h H=> ?_) H;cases e with
  |normal=>exact hq _ _ _ H
  |ret=>exact hq _ _ _ H
  |exit i=>
   simp only[Ex.inBlock]at*;split
   ·rename_i e;rw[if_pos e]at H;exact hq _ _ _ H
   ·rename_i e;rw[if_neg e]at H;exact hq _ _ _ H
 |loop x ih=>
  intro Q Q' t h hq H;obtain⟨I,h1,h2⟩:=H;refine⟨I,h1,λn t' h' hi=>ih (λe t h H=> ?_) (h2 n t' h' hi)⟩;cases e with
  |normal=>exact H
  |exit id=>exact hq _ _ _ H
  |ret=>exact hq _ _ _ H
 |range u ps x y ihx ihy=>
  intro Q Q' t h hq H L hy
  have:=H L hy
  split at this
  ·exact this.le (qaI.refl _) (λv h' hr=>⟨v,VLe.refl _,qdI hq hr⟩)
  ·exact this
 |exit id=>intro Q Q' t h hq H;exact hq _ _ _ H
 |ret=>intro Q Q' t h hq H;exact hq _ _ _ H
 |wk=>
  intro Q Q' t h hq H;obtain⟨t',h',h1,h2⟩:=H;exact⟨t',h',h1,hq _ _ _ h2⟩
 |draw d=>
  intro Q Q' t h hq H;obtain⟨M,h1,h2⟩:=H;exact⟨M,h1,λt' h' hm=>hq _ _ _ (h2 t' h' hm)⟩
 |bad=>intro Q Q' t h hq H;exact H
def qvi(o:Option AObj)(ver sz off n:Nat):Option (Nat×wg):=
 match o with
 |some (.mem v _ cs)=>if v=ver∧off+n*sz<=cs.length then some (n,(cs.drop off).take (n*sz)) else none
 |some (.emp v)=>if v=ver∧n=0 then some (0,[]) else none
 |_=>none
theorem qcw{h:we}{k ver sz off n:Nat}:qj h (.osl k ver sz off n)=qvi (qq k h) ver sz off n:=rfl
theorem qm0{v ver sz off n:Nat}{ty:TypeId}{cs:wg}:qvi (some (.mem v ty cs)) ver sz off n=if v=ver∧off+n*sz<=cs.length then some (n,(cs.drop off).take (n*sz)) else none:=rfl
theorem qmZ{v ver sz off n:Nat}:qvi (some (.emp v)) ver sz off n=if v=ver∧n=0 then some (0,[]) else none:=rfl
theorem qhp{k v z p n k' v' z' p' n':Nat}:qa9 (.osl k v z p n) (.osl k' v' z' p' n')=(k !=k'):=rfl
theorem qjd{k v z p n m:Nat}{f:Nat->wg}:qa9 (.osl k v z p n) (.sl m f)=true:=rfl
theorem qjc{k v z p n:Nat}:qa9 (.osl k v z p n) .nl=true:=rfl
attribute [go_sem] Int.toNat_zero decide_true decide_false beq_self_eq_true
attribute [go_sem] qcw qm0 qmZ qhp qjd qjc
theorem qf9{g:we}{z:Nat}{i:AV}:valL g (.idxA z) [.nl,i]= .undef:=rfl
theorem qck{g:we}{n:Option Nat}:valL g (.load n) [.undef]= .undef:=rfl
theorem qcx{g:we}{n:Nat}:valL g (.fldA n) [.undef]= .undef:=rfl
theorem qhr{op:BinOp}{y:AV}:fb op .undef y= .undef:=rfl
theorem qmr{p g:Bool}:jU (.bool true) (.bool p) (.gd g .undef)= .bool p:=rfl
theorem qmm{p g:Bool}:jU (.bool false) (.gd g .undef) (.bool p)= .bool p:=rfl
attribute [go_sem] qf9 qck qcx qhr qmr qmm
theorem qs5{P:Program}{b:Nat}{u:X}{ps:List Nat}{x y:C}{Q:Ex->Nx}{t:wg}{h:we}:qW P b (.range u ps x y) Q t h=qeS P (ev t u) ps (qW P b x) (qW P b y) Q t h:=(rfl)
attribute [go_sem] qs5
end AF
end
section
namespace AF
open Go
theorem HR.move{w:World}{σ:List OB}{h:we}(H:HR w σ h){k j vj:Nat}{ty:TypeId}{cs:wg}(hj:qq j h=some (.mem vj ty cs))(hk:qH h k=true)(hne:k≠j):
  ∃σ',HR w σ' (qn k (qn j h (.emp (vj+1))) (.mem (qo (qq k h)+1) ty cs))∧Ext w σ w σ'∧
   ∀sz off len x,VR w σ (.osl j vj sz off len) x->VR w σ' (.osl k (qo (qq k h)+1) sz off len) x:=by
 obtain⟨ok,hok,hver⟩:=zR H hk;have hjl:j<σ.length:=by rw[H.len];exact zE hj
 have hkl:k<σ.length:=(List.getElem?_eq_some_iff.1 hok).1;obtain⟨oj,hoj⟩: ∃oj,σ[j]? =some oj:=⟨_,List.getElem?_eq_getElem hjl⟩
 have hobj:=H.obj j _ oj hj hoj;obtain⟨m1,m2,b,arr,m3,m4,m5,m6,m7,m8⟩:=hobj;rw[hver]
 let oj':OB:= { oj with blk:=none,ver:=oj.ver+1 }
 let ok':OB:= { oj with ver:=ok.ver+1 }
 let σ':=(σ.set j oj').set k ok'
 have gk:σ'[k]? =some ok':=by simp[σ',hkl]
 have gj:σ'[j]? =some oj':=by simp only[σ'];rw[List.getElem?_set_ne hne];simp[hjl]
 have go: ∀i,i≠k->i≠j->σ'[i]? =σ[i]? :=by
  intro i h1 h2;simp only[σ'];rw[List.getElem?_set_ne (λe=>h1 e.symm),List.getElem?_set_ne (λe=>h2 e.symm)]
 have blk: ∀(i:Nat) (o:OB) (b:Nat),σ'[i]? =some o->o.blk=some b->(i=k∧oj.blk=some b)∨(i≠k∧i≠j∧σ[i]? =some o):=by
  intro i o b h1 h2
  by_cases e1:i=k
  ·subst e1;rw[gk]at h1;cases h1;exact .inl ⟨rfl,h2⟩
  ·by_cases e2:i=j
   ·subst e2;rw[gj]at h1;cases h1;cases h2
   ·rw[go i e1 e2]at h1;exact .inr ⟨e1,e2,h1⟩
 have hext:Ext w σ w σ':=by
  refine⟨rfl,rfl,rfl,Nat.le_refl _,λ_ _ _=>rfl,?_,?_,λb r h=>⟨r,h⟩⟩
  ·rintro b ⟨i,o,h1,h2⟩;rcases blk i o b h1 h2 with⟨_,h3⟩|⟨_,_,h3⟩
   ·exact .inl ⟨j,oj,hoj,h3⟩
   ·exact .inl ⟨i,o,h3,h2⟩
  ·intro i o h1
   by_cases e1:i=k
   ·subst e1;rw[hok]at h1;cases h1;exact⟨ok',gk,by simp[ok'],by simp[ok']⟩
   ·by_cases e2:i=j
    ·subst e2;rw[hoj]at h1;cases h1;exact⟨oj',gj,by simp[oj'],by simp[oj']⟩
    ·exact⟨o,by rw[go i e1 e2];exact h1,Nat.le_refl _,λ_=>rfl⟩
 refine⟨σ',⟨by simp[σ',qn,H.len],?_,?_,?_⟩,hext,?_⟩
 ·intro i i' o o' b h1 h2 h3 h4;rcases blk i o b h1 h3 with⟨rfl,g1⟩|⟨g0,g1,g2⟩<;>rcases blk i' o' b h2 h4 with⟨rfl,g1'⟩|⟨g0',g1',g2'⟩
  ·rfl
  ·exact absurd (H.inj i' j o' oj b g2' hoj h4 g1) g1'
  ·exact absurd (H.inj i j o oj b g2 hoj h3 g1') g1
  ·exact H.inj i i' o o' b g2 g2' h3 h4
 ·intro i o b h1 h2;rcases blk i o b h1 h2 with⟨_,g1⟩|⟨_,_,g2⟩
  ·exact H.lt j oj b hoj g1
  ·exact H.lt i o b g2 h2
 ·intro i a o ha ho
  by_cases e1:i=k
  ·subst e1;have hkh:i<(qn j h (.emp (vj+1))).length:=by rw[qL,<-H.len];exact hkl
   have:=jh (o:= .mem (ok.ver+1) ty cs) hkh
   unfold qq at this;rw[this]at ha;cases ha;rw[gk]at ho;cases ho;exact⟨rfl,m2,b,arr,m3,m4,m5,m6,m7,λi c x hc hx=>(m8 i c x hc hx).ext hext⟩
  ·by_cases e2:i=j
   ·subst e2;have hjh:i<h.length:=by rw[<-H.len];exact hjl
    simp only[qn]at ha;rw[List.getElem?_set_ne hne,List.getElem?_set_self hjh]at ha;cases ha;rw[gj]at ho;cases ho;exact⟨by simp[oj',m1],rfl⟩
   ·rw[go i e1 e2]at ho;simp only[qn]at ha;rw[List.getElem?_set_ne (λe=>e1 e.symm),List.getElem?_set_ne (λe=>e2 e.symm)]at ha;exact (H.obj i a o ha ho).ext hext (λ_ _=>rfl)
 ·intro sz off len x hx;cases hx with
  |imm h=>cases h
  |osl o ho hs hle hh=>
   rw[hoj]at ho;cases ho;refine .osl ok' gk hs (Nat.le_refl _) (λ_=> ?_);exact hh m1
def fnM(rs:List RV)(h0:we)(k:Nat)(K:AV->we->Prop):Ex->Nx
 | .exit _,_,_=>False
 |_,t,hh=> ∃(j vj sz off len:Nat) (ty:TypeId) (cs:wg) (tl:we),kp t hh rs∧qfI (zY t hh rs)= .osl j vj sz off len∧hh=h0++tl∧h0.length<=j∧qq j hh=some (.mem vj ty cs)∧
   (∀c∈cs,qS h0.length c=true)∧qH h0 k=true∧K (.osl k (qo (qq k h0)+1) sz off len) (qn k h0 (.mem (qo (qq k h0)+1) ty cs))
theorem qhn{P:Program}{f nt ns:Nat}{rs:List RV}{c:C}(hf:qK P f nt ns rs c){args:wg}{h:we}{K:AV->we->Prop}(k:Nat)(ha:args.length<=nt)
  (hw:qW P h.length c (fnM rs h k K) (args++List.replicate (nt-args.length) .undef) (h++List.replicate ns (.emp 0))):zU P f args h K:=by
 obtain⟨fn,body,js,imp,wks,h1,h2,h3,rfl,rfl,h6,h7⟩:=hf;refine⟨by simp[okF,h1,h2,h3],λw σ xs H hv=> ?_⟩;refine callsIn_of_wp_marks h1 h2 trivial ?_;obtain⟨p1,p2⟩:=H.pushN js.length;have hsr:SR w.heap.size w (σ++List.replicate js.length ⟨none,0,0,0⟩) (args++List.replicate (fn.ntmps-args.length) .undef) (h++List.replicate js.length (.emp 0))
   { tmps:=xs.toArray++Array.replicate (fn.ntmps-xs.toArray.size) Go.undef,defers:= [] }:=by
  refine⟨p1,by simp[hv.1],λi c x hc hx=> ?_,⟨[],rfl,.nil,Nat.le_refl _,by simp⟩⟩;rw[List.getElem?_append]at hc;simp only[Array.getElem?_append]at hx;have hz:xs.toArray.size=args.length:=by simp[hv.1]
  split at hc
  ·rename_i hi;rw[if_pos (by omega)]at hx;exact (hv.2 i c x hc (by simpa using hx)).ext p2
  ·rw[List.getElem?_replicate]at hc;split at hc
   ·cases hc;exact .imm .undef
   ·cases hc
 refine wpIn_mono (qgq (b:=h.length) h7 w.heap.size none _ w _ _ _ _ hw (by simp) hsr) ?_;rintro e a' w' ⟨z,σ',t',hh,he,g1,g2,g3⟩;have key:(∃(j vj sz off len:Nat) (ty:TypeId) (cs:wg) (tl:we),kp t' hh rs∧qfI (zY t' hh rs)= .osl j vj sz off len∧hh=h++tl∧h.length<=j∧qq j hh=some (.mem vj ty cs)∧
   (∀c∈cs,qS h.length c=true)∧qH h k=true∧K (.osl k (qo (qq k h)+1) sz off len) (qn k h (.mem (qo (qq k h)+1) ty cs)))->
   LeavesInM Fence.wide 0 P fn a'.tmps (λe w'=> ∃v σ' r h',K r h'∧e= .returned v∧HR w' σ' h'∧VR w' σ' r v∧Ext w σ w' σ') a'.defers .returning w':=by
  rintro⟨j,vj,sz,off,len,ty,cs,tl,k1,k2,rfl,k3,k4,k5,k6,hK⟩;obtain⟨ms,d1,d2,d3,d4⟩:=g1.df;rw[d1];refine qbg (N:=w.heap.size) ms w' d2 (λr hr=>⟨(d4 r hr).1,(d4 r hr).2.2.2⟩) (λw1 e1=> ?_);have H1:=g1.hr.dt e1;obtain⟨v,v1,v2⟩:=qcY (P:=P) H1 g1.sz (λi c x hc hx=>(g1.tm i c x hc hx).dt e1) h6 k1;rw[k2]at v2;have ee:Ext w σ w1 σ':=(p2.trans g2).dt e1;have hkl:k<h.length:=by
   have:=k6
   unfold qH at this;split at this
   ·rename_i hx;exact zE hx
   ·rename_i hx;exact zE hx
   ·rename_i hx;exact zE hx
   ·cases this
  have hkt:qH (h++tl) k=true:=by unfold qH at k6 ⊢;rw[zx hkl];exact k6
  obtain⟨σ2,q1,q2,q3⟩:=H1.move k4 hkt (by omega);have q3':=q3 _ _ _ _ v2;rw[zx hkl]at q1 q3';have eh:qn k (qn j (h++tl) (.emp (vj+1))) (.mem (qo (qq k h)+1) ty cs)=qn k h (.mem (qo (qq k h)+1) ty cs)++qn (j-h.length) tl (.emp (vj+1)):=by
   unfold qn;rw[List.set_append_right _ _ k3,List.set_append_left _ _ hkl]
  rw[eh]at q1;obtain⟨m1,m2⟩:=HR.trunc H (ee.trans q2) q1 qL (λo ho=>by
   rcases jc ho with h1|rfl
   ·exact .inl h1
   ·exact .inr k5)
  refine⟨v,v1,v,_,_,_,hK,rfl,m1,?_,m2⟩;cases q3' with
  |imm h=>cases h
  |osl o ho hs hle hh=>
   refine .osl o ?_ hs hle hh;rw[List.getElem?_take,if_pos hkl];exact ho
 cases e with
 |normal=>cases he;exact key g3
 |ret=>cases he;exact key g3
 |exit id=>cases he;exact g3.elim
 |goto l=>cases he
 |panic c=>cases he
 |outgrown=>cases he
theorem qbR{P:Program}{f nt ns:Nat}{rs:List RV}{c:C}(hf:qK P f nt ns rs c){args:wg}{h:we}{r:AV}{h':we}(k:Nat)(ha:args.length<=nt)
  (hw:qW P h.length c (fnM rs h k λr1 h1=>r1=r∧h1=h') (args++List.replicate (nt-args.length) .undef) (h++List.replicate ns (.emp 0))):ACalls P f args h r h':=(qhn hf k ha hw).calls
end AF
end
section
namespace AF
open Go
section
variable {P : Program} {b : Nat} {r : List RO} {K : Nx} {t : wg} {h : we} {d : Option Nat} {xs : List X} {j : Nat} {u : Bool}
end
end AF
end
section
namespace AF
open Go
def qr(o:Option AObj)(ver:Nat):Option wg:=
 match o with
 |some (.mem v _ cs)=>if v=ver then some cs else none
 |_=>none
def qG(o:Option AObj)(ver:Nat):Bool:=
 match o with
 |some (.mem v _ _)=>v==ver
 |some (.emp v)=>v==ver
 |_=>false
section
variable {h l : we} {i j k ver v : Nat} {o o' o'' : AObj} {ty : TypeId} {cs : wg}
theorem zM:cellsOf h k ver=qr (qq k h) ver:=rfl
theorem ji:qE h k ver=qG (qq k h) ver:=rfl
theorem qk:qr (some (.mem v ty cs)) ver=if v=ver then some cs else none:=rfl
theorem UK:qG (some (.mem v ty cs)) ver=(v==ver):=rfl
theorem qcQ:qG (some (.emp v)) ver=(v==ver):=rfl
theorem qR(hne:k≠j):qq k (qn j h o)=qq k h:=by unfold qq qn;rw[List.getElem?_set_ne (λe=>hne e.symm)]
theorem qdq(hk:k<h.length):qq k (qn j h o++l)=qq k (qn j h o):=zx (by rw[qL];exact hk)
theorem qdr(hk:k<h.length):qq k (qn i (qn j h o) o'++l)=qq k (qn i (qn j h o) o'):=zx (by rw[qL,qL];exact hk)
theorem qdM(hk:k<h.length):qn k (qn j h o++l) o'=qn k (qn j h o) o'++l:=zy (by rw[qL];exact hk)
theorem qdN(hk:k<h.length):qn k (qn i (qn j h o) o'++l) o''=qn k (qn i (qn j h o) o') o''++l:=zy (by rw[qL,qL];exact hk)
theorem kq(hne:i≠j):qn i (qn j h o) o'=qn j (qn i h o') o:=by unfold qn;rw[List.set_comm _ _ (λe=>hne e.symm)]
end
end AF
end
section
namespace AF
open Go
theorem qan{α β:Type}{f:α->Option β}: ∀ {l:List α} {ys:List β},l.mapM f=some ys->ys.length=l.length∧ ∀(i:Nat) x y,l[i]? =some x->ys[i]? =some y->f x=some y:=by
 intro l
 induction l with
 |nil=>intro ys h;simp at h;subst h;simp
 |cons a l ih=>
  intro ys h;rw[List.mapM_cons]at h;cases ha:f a with
  |none=>simp[ha]at h
  |some b=>
   cases hl:l.mapM f with
   |none=>simp[ha,hl]at h
   |some zs=>
    simp[ha,hl]at h;subst h;obtain⟨h1,h2⟩:=ih hl;refine⟨by simp[h1],λi x y hx hy=> ?_⟩;cases i with
    |zero=>simp at hx hy;subst hx hy;exact ha
    |succ i=>exact h2 i x y (by simpa using hx) (by simpa using hy)
section
variable {H : Type} {enc : TypeId × Value -> H} {P : Program} {w : World} {sp : Nat -> Bool} {held : Bool} {ow : Nat -> Prop}
end
theorem HR.nil(w:World):HR w [] []:=⟨rfl,by simp,by simp,by simp⟩
theorem quG(b:Nat): ¬own [] b:=λ⟨k,o,h,_⟩=>by simp at h
theorem VRs.nil'{w:World}{σ:List OB}:VRs w σ [] []:=⟨rfl,by simp⟩
theorem VRs.cons'{w:World}{σ:List OB}{a:AV}{v:Value}{as:wg}{vs:List Value}(h:VR w σ a v)(h':VRs w σ as vs):VRs w σ (a::as) (v::vs):=by
 refine⟨by simp[h'.1],λi c x hc hx=> ?_⟩;cases i with
 |zero=>simp at hc hx;subst hc hx;exact h
 |succ i=>exact h'.2 i c x (by simpa using hc) (by simpa using hx)
end AF
end
section
namespace AF
open Go Go.ChangeShapes Go.WideShapes Go.ChangeAt Go.RowKit
section
variable {H : Type} {enc : TypeId × Value -> H} {P : Program} {W W' : World}
theorem qe9(hl:laidOutB P=true)(hb:Below W.heap.size W W'): ∀ {ts:List TypeId} {vs:List Value} {ds:List (DataW H)} {ps:List MemPlace},(∀t∈ts,P.readableRec t=true∧t<P.types.size)->
  (∀x∈ps,x.block<W.heap.size)->DataW.TrodAll enc P W 0 (λ_=>true) true ts vs ds ps->DataW.TrodAll enc P W' 0 (λb=>decide (b<W.heap.size)) true ts vs ds ps:=by
 intro ts
 induction ts with
 |nil=>
  intro vs ds ps _ _ h
  match vs,ds,h with
  | [],[],h=>exact h
 |cons t ts ih=>
  intro vs ds ps ht hp h
  match vs,ds,h with
  |v::vs,d::ds,⟨p,q,h1,h2,e⟩=>
   subst e;refine⟨p,q,?_,?_,rfl⟩
   ·exact Below.trod hl (ht t (by simp)).1 (ht t (by simp)).2 h1 hb (λx hx=>hp x (by simp[hx]))
   ·exact ih (λu hu=>ht u (by simp[hu])) (λx hx=>hp x (by simp[hx])) h2
theorem qpP{f:Func}{s:ChangeSpec}{args:Array Value}{ds:List (DataW H)}{before:List MemPlace}{tb:TypeId}(hl:laidOutB P=true)(hv:s.vars= [])(hfn:s.fn H ds= { results:= [.lit (.bool true)],args:=ds })
  (hrt:f.resultTypes= #[tb]) (htb:P.underlying tb=some .bool) (hro: ∀t∈f.params.toList,P.readableRec t=true∧t<P.types.size)
  (hW:DataW.Whole enc P f.params.toList s.vars false W args.toList ds [] before) (hA:DataW.TrodAll enc P W 0 (λ_=>true) true f.params.toList args.toList ds before) (hb:Below W.heap.size W W'):
  s.post enc P f false true false false W args (.bool true) W':=by
 have hlt: ∀x∈before,x.block<W.heap.size:=λx hx=>hW.lt x hx
 refine⟨ds,[],before,[],before,[],hW,?_,?_,?_,?_,λh=>by cases h⟩
 ·rw[List.append_nil,hfn,hrt];exact⟨[],[],shut_bool htb true,rfl,rfl⟩
 ·rw[List.append_nil,hfn];exact qe9 hl hb hro hlt hA
 ·rw[List.append_nil,hfn,hv];rfl
 ·exact World.keptBut_mono (λx hx=>⟨hx,.inr (.inl hx)⟩) (hb.frame (· ∈before))
end
end AF
end
section
namespace AF
open Go
def qra(P:Program):Nat->List Field->Option Nat
 |n,[]=>some n
 |n,f::r=>if f.offset=n then qra P (n+P.cellsOf f.type) r else none
def qbi(P:Program):Nat->TypeId->Bool
 |0,_=>false
 |d+1,t=>match P.underlying t with
  |some .bool=>decide (P.cellsOf t=1)
  |some (.int _)=>decide (P.cellsOf t=1)
  |some .string=>decide (P.cellsOf t=1)
  |some (.slice e)=>decide (P.cellsOf t=1)&&(decide (0<P.cellsOf e)&&qbi P d e)
  |some (.struct fs)=>decide (qra P 0 fs.toList=some (P.cellsOf t))&&fs.toList.all λf=>qbi P d f.type
  |_=>false
def jC(P:Program):Nat->TypeId->wg->Prop
 |0,_,_=>False
 |d+1,t,as=>match P.underlying t with
  |some .bool=> ∃b,as= [.bool b]
  |some (.int k)=> ∃n,as= [.int k n]∧(Lit.int k n).wf=true
  |some .string=> ∃s:List UInt8,as= [.str s]∧s.length<=maxLen
  |some (.slice e)=> ∃(n:Nat) (f:Nat->wg),as= [.sl n f]∧n<=maxLen∧ ∀i,i<n->jC P d e (f i)
  |some (.struct fs)=>as.length=P.cellsOf t∧ ∀f∈fs.toList,jC P d f.type ((as.drop f.offset).take (P.cellsOf f.type))
  |_=>False
section
variable {H : Type} {enc : TypeId × Value -> H} {P : Program} {w : World} {held : Bool} {ow : Nat -> Prop}
structure f5 (w:World) (ow:Nat->Prop) (as:wg) (cs:List Value):Prop where
 len:cs.length=as.length
 one: ∀(i:Nat) v,cs[i]? =some v->v.oneCell'=true
 vi: ∀(i:Nat) c v,as[i]? =some c->cs[i]? =some v->VI w ow c v
theorem f5.single{a:AV}{v:Value}(h1:v.oneCell'=true)(h2:VI w ow a v):f5 w ow [a] [v]:=by
 refine⟨rfl,λi x hx=> ?_,λi c x hc hx=> ?_⟩
 ·cases i<;>simp at hx;subst hx;exact h1
 ·cases i<;>simp at hx hc;subst hx hc;exact h2
theorem f5.append{as bs:wg}{cs ds:List Value}(h:f5 w ow as cs)(h':f5 w ow bs ds):f5 w ow (as++bs) (cs++ds):=by
 have hl:=h.len;refine⟨by simp[hl,h'.len],λi v hv=> ?_,λi c v hc hv=> ?_⟩
 ·rw[List.getElem?_append]at hv;split at hv
  ·exact h.one i v hv
  ·exact h'.one _ v hv
 ·rw[List.getElem?_append]at hc hv;split at hv
  ·rename_i hi;rw[if_pos (by omega)]at hc;exact h.vi i c v hc hv
  ·rename_i hi;rw[if_neg (by omega),<-hl]at hc;exact h'.vi _ c v hc hv
theorem qfx{d fuel:Nat}(ih: ∀(t:TypeId) (cs:List Value) (dd:DataW H) (ps:List MemPlace),qbi P d t=true->DataW.trod enc P w 0 (λ_=>true) held fuel t cs=some (dd,ps)-> ∃as,jC P d t as∧as.length=P.cellsOf t∧f5 w ow as cs){cs:List Value}:
  ∀(fs:List Field) (n m:Nat) (xs:List (DataW H×List MemPlace)),qra P n fs=some m->(∀f∈fs,qbi P d f.type=true)->m<=cs.length->
   fs.mapM (λf=>DataW.trod enc P w 0 (λ_=>true) held fuel f.type ((cs.drop f.offset).take (P.cellsOf f.type)))=some xs->
   n<=m∧ ∃as,(∀f∈fs,n<=f.offset∧jC P d f.type ((as.drop (f.offset-n)).take (P.cellsOf f.type)))∧as.length=m-n∧f5 w ow as ((cs.drop n).take (m-n)):=by
 intro fs
 induction fs with
 |nil=>
  intro n m xs ht _ hm _;cases ht;exact⟨Nat.le_refl _,[],by simp,by simp,⟨by simp,by simp,by simp⟩⟩
 |cons f r ihr=>
  intro n m xs ht hk hm hx;simp only[qra]at ht;split at ht
  ·rename_i hoff;rw[List.mapM_cons]at hx;cases ha:DataW.trod enc P w 0 (λ_=>true) held fuel f.type ((cs.drop f.offset).take (P.cellsOf f.type))with
   |none=>simp[ha]at hx
   |some y=>
    cases hl:r.mapM (λf=>DataW.trod enc P w 0 (λ_=>true) held fuel f.type ((cs.drop f.offset).take (P.cellsOf f.type)))with
    |none=>simp[ha,hl]at hx
    |some zs=>
     obtain⟨g0,as1,g1,g2,g3⟩:=ihr (n+P.cellsOf f.type) m zs ht (λg hg=>hk g (by simp[hg])) hm hl;obtain⟨as0,k1,k2,k3⟩:=ih f.type _ y.1 y.2 (hk f (by simp)) (by rw[ha]);rw[hoff]at k3;refine⟨by omega,as0++as1,λg hg=> ?_,by rw[List.length_append,k2,g2];omega,?_⟩
     ·rcases List.mem_cons.1 hg with rfl|hg
      ·refine⟨by omega,?_⟩;rw[hoff,Nat.sub_self,List.drop_zero,List.take_append_of_le_length (by omega),List.take_of_length_le (by omega)];exact k1
      ·obtain⟨q1,q2⟩:=g1 g hg;refine⟨by omega,?_⟩;rw[List.drop_append,List.drop_of_length_le (by omega),List.nil_append,show g.offset-n-as0.length=g.offset-(n+P.cellsOf f.type) by omega];exact q2
     ·have e:(cs.drop n).take (m-n)=(cs.drop n).take (P.cellsOf f.type)++(cs.drop (n+P.cellsOf f.type)).take (m-(n+P.cellsOf f.type)):=by
       rw[show m-n=P.cellsOf f.type+(m-(n+P.cellsOf f.type)) by omega,List.take_add,List.drop_drop]
      rw[e];exact k3.append g3
  ·cases ht
theorem qnc{a:Addr}{v:Value}(h:w.cell? a=some v): ∃b off,a=⟨b,off,none⟩∧b<w.heap.size:=by
 obtain⟨b,off,spot⟩:=a;unfold World.cell? at h;split at h
 ·rename_i c e f hb;split at h
  ·cases h
  ·rename_i hs;cases spot with
   |some _=>simp at hs
   |none=>exact⟨b,off,rfl,(Array.getElem?_eq_some_iff.1 hb).1⟩
 ·cases h
theorem qkL(how: ∀b,¬ow b): ∀(d fuel:Nat) (t:TypeId) (cs:List Value) (dd:DataW H) (ps:List MemPlace),qbi P d t=true->DataW.trod enc P w 0 (λ_=>true) held fuel t cs=some (dd,ps)->
  ∃as,jC P d t as∧as.length=P.cellsOf t∧f5 w ow as cs:=by
 intro d
 induction d with
 |zero=>intro fuel t cs dd ps hk;cases hk
 |succ d ih=>
  intro fuel t cs dd ps hk h;unfold qbi at hk;unfold jC;split at hk
  ·rename_i ht;have hc:=of_decide_eq_true hk;obtain⟨b,rfl,_⟩:=DataW.trod_bool ht h;exact⟨[.bool b],⟨b,rfl⟩,hc.symm,f5.single rfl .bool⟩
  ·rename_i k ht;have hc:=of_decide_eq_true hk;obtain⟨n,rfl,_,hw⟩:=DataW.trod_int ht h;exact⟨[.int k n],⟨n,rfl,hw⟩,hc.symm,f5.single rfl .int⟩
  ·rename_i ht;have hc:=of_decide_eq_true hk;obtain⟨s,rfl,_,hw⟩:=DataW.trod_string ht h;have hsz:s.data.toList.length<=maxLen:=by rw[Array.length_toList];exact hw
   exact⟨[.str s.data.toList],⟨_,rfl,hsz⟩,hc.symm,f5.single rfl (by have:= @VI.str w ow s.data.toList;rw[Array.toArray_toList]at this;exact this)⟩
  ·rename_i e ht;simp only[Bool.and_eq_true,decide_eq_true_eq]at hk;obtain⟨hc,hpos,hk⟩:=hk;cases fuel with
   |zero=>simp[DataW.trod]at h
   |succ fuel=>
    have hcs:(cs= [.slice none 0 0])∨ ∃a len cap,cs= [.slice (some a) len cap]:=by
     unfold DataW.trod at h;rw[ht]at h;split at h<;>first|(rename_i g _;cases g;done)|skip
     all_goals first|(rename_i g;cases g;done)|skip
     all_goals first|exact .inl rfl|exact .inr ⟨_,_,_,rfl⟩|(cases h;done)
    rcases hcs with rfl|⟨a,len,cap,rfl⟩
    ·exact⟨[.sl 0 λ_=> []],⟨0,λ_=> [],rfl,Nat.zero_le _,λi hi=>absurd hi (Nat.not_lt_zero _)⟩,hc.symm,f5.single rfl .nilsl⟩
    ·simp only[DataW.trod,ht]at h;split at h
     ·rename_i hcc;obtain⟨_,c1,c2⟩:=hcc;rw[Option.bind_eq_some_iff]at h;obtain⟨elems,hm,hrest⟩:=h;rw[Option.map_eq_some_iff]at hrest;obtain⟨rest,hrest,_⟩:=hrest
      try simp only[if_true]at hrest
      obtain⟨m1,m2⟩:=qan hm;obtain⟨r1,r2⟩:=qan hrest;simp only[List.length_range]at m1 r1;have all: ∀i,i<cap-> ∃x,((w.cells? 0 (a.add (i*P.cellsOf e)) (P.cellsOf e)).bind (DataW.trod enc P w 0 (λ_=>true) held fuel e))=some x:=by
       intro i hi
       by_cases hl:i<len
       ·exact⟨_,m2 i i _ (by simp[hl]) (List.getElem?_eq_getElem (by omega))⟩
       ·have:=r2 (i-len) (i-len) _ (by rw[List.getElem?_range (by omega)]) (List.getElem?_eq_getElem (by omega))
        rw[show len+(i-len)=i by omega]at this;exact⟨_,this⟩
      by_cases hcap:cap=0
      ·subst hcap
       have:len=0:=by omega
       subst this;exact⟨[.sl 0 λ_=> []],⟨0,λ_=> [],rfl,Nat.zero_le _,λi hi=>absurd hi (Nat.not_lt_zero _)⟩,hc.symm,f5.single rfl .nilsl⟩
      ·obtain⟨x0,h0⟩:=all 0 (by omega);rw[Option.bind_eq_some_iff]at h0;obtain⟨cs0,h0,_⟩:=h0;rw[Nat.zero_mul]at h0;have hadd0:a.add 0=a:=by simp[Addr.add]
       rw[hadd0]at h0;unfold World.cells? at h0;rw[if_pos (Nat.zero_le _)]at h0;obtain⟨n1,n2⟩:=qan h0;simp only[List.length_range]at n1;have hcell:=n2 0 0 _ (by simp[hpos]) (List.getElem?_eq_getElem (show 0<cs0.length by omega));rw[hadd0]at hcell;obtain⟨b,off,rfl,hlt⟩:=qnc hcell;have hadd: ∀n,(⟨b,off,none⟩:Addr).add n=⟨b,off+n,none⟩:=by
        intro n;unfold Addr.add;split
        ·rename_i h;subst h;rfl
        ·rfl
       have hadd2: ∀n m,(⟨b,off+n,none⟩:Addr).add m=⟨b,off+n+m,none⟩:=by
        intro n m;unfold Addr.add;split
        ·rename_i h;subst h;rfl
        ·rfl
       have key: ∀i,i<len-> ∃(as:wg) (cs:List Value),jC P d e as∧as.length=P.cellsOf e∧f5 w ow as cs∧(∀(j:Nat) v,cs[j]? =some v->w.cell? ⟨b,off+i*P.cellsOf e+j,none⟩=some v):=by
        intro i hi;obtain⟨x,hx⟩:=all i (by omega);rw[Option.bind_eq_some_iff]at hx;obtain⟨cs,h3,h4⟩:=hx;obtain⟨as,f1,f2,f3⟩:=ih fuel e cs x.1 x.2 hk h4;rw[hadd]at h3;unfold World.cells? at h3;rw[if_pos (Nat.zero_le _)]at h3;obtain⟨n1,n2⟩:=qan h3;simp only[List.length_range]at n1;refine⟨as,cs,f1,f2,f3,λj v hj=> ?_⟩;have hjl:j<P.cellsOf e:=by have:=(List.getElem?_eq_some_iff.1 hj).1;omega
        have:=n2 j j v (by simp[hjl]) hj
        rw[hadd2]at this;exact this
       have ex: ∃g:Nat->wg×List Value,∀i,i<len->jC P d e (g i).1∧(g i).1.length=P.cellsOf e∧f5 w ow (g i).1 (g i).2∧(∀(j:Nat) v,(g i).2[j]? =some v->w.cell? ⟨b,off+i*P.cellsOf e+j,none⟩=some v):=by
        refine⟨λi=>if hi:i<len then ((key i hi).choose,(key i hi).choose_spec.choose) else ([],[]),λi hi=> ?_⟩;simp only[dif_pos hi];exact (key i hi).choose_spec.choose_spec
       obtain⟨g,hg⟩:=ex;refine⟨[.sl len λi=>(g i).1],⟨len,λi=>(g i).1,rfl,Nat.le_trans c1 c2,λi hi=>(hg i hi).1⟩,hc.symm,f5.single rfl (.sl (P.cellsOf e) b off cap (λi j=>(g i).2.getD j Go.undef) c1 c2 (λ_=>how b) hlt (λi hi=>(hg i hi).2.1) (λi j hi hj=> ?_) (λi j hi hj=> ?_) (λi j c hi hc=> ?_))⟩
       ·obtain⟨_,q2,q3,q4⟩:=hg i hi;have hl:=q3.len;have e:(g i).2[j]? =some (g i).2[j]:=List.getElem?_eq_getElem (by omega);rw[q4 j _ e,List.getD_eq_getElem?_getD,e];rfl
       ·obtain⟨_,q2,q3,q4⟩:=hg i hi;have hl:=q3.len;have e:(g i).2[j]? =some (g i).2[j]:=List.getElem?_eq_getElem (by omega);rw[List.getD_eq_getElem?_getD,e];exact q3.one j _ e
       ·obtain⟨_,q2,q3,q4⟩:=hg i hi;have hl:=q3.len;have hj:=(List.getElem?_eq_some_iff.1 hc).1;have e:(g i).2[j]? =some (g i).2[j]:=List.getElem?_eq_getElem (by omega);rw[List.getD_eq_getElem?_getD,e];exact q3.vi j c _ hc e
     ·cases h
  ·rename_i fs ht;simp only[Bool.and_eq_true,decide_eq_true_eq,List.all_eq_true]at hk;obtain⟨htile,hk⟩:=hk;cases fuel with
   |zero=>simp[DataW.trod]at h
   |succ fuel=>
    simp only[DataW.trod,ht]at h;split at h
    ·rename_i hcl;rw[Option.map_eq_some_iff]at h;obtain⟨xs,hm,_⟩:=h;obtain⟨_,as,g1,g2,g3⟩:=qfx (λt cs dd ps=>ih fuel t cs dd ps) fs.toList 0 (P.cellsOf t) xs htile hk (by omega) hm;rw[Nat.sub_zero]at g2 g3;rw[List.drop_zero,List.take_of_length_le (by omega)]at g3;exact⟨as,⟨g2,λf hf=>by have:=(g1 f hf).2;rwa [Nat.sub_zero]at this⟩,g2,g3⟩
    ·cases h
  ·cases hk
theorem qqy(how: ∀b,¬ow b){d:Nat}{t:TypeId}{cs:Array Value}{dd:DataW H}{ps:List MemPlace}(hk:qbi P d t=true)(h:DataW.Trod enc P w 0 (λ_=>true) held t (.agg cs) dd ps): ∃as,jC P d t as∧VI w ow (.agg as) (.agg cs):=by
 obtain⟨fuel,h⟩:=h;obtain⟨as,g1,g2,g3⟩:=qkL how d fuel t _ dd ps hk h;refine⟨as,g1,.agg ?_ (λi x hx=>g3.one i x ?_) (λi c x hc hx=>g3.vi i c x hc ?_)⟩
 ·have:=g3.len;simpa[Value.cells] using this
 ·simpa[Value.cells] using hx
 ·simpa[Value.cells] using hx
end
end AF
end
section
namespace AF
open Go
def zw(v:Nat)(ty:TypeId)(cs:wg):AObj:=if cs= [] then .emp v else .mem v ty cs
section
variable {h l : we} {k v w n c : Nat} {ty : TypeId} {cs ms : wg} {a : AV} {o : AObj}
theorem cb(h:cs≠ []):zw v ty cs= .mem v ty cs:=if_neg h
theorem liveS_own0:qE (zw v ty cs::l) 0 w=(v==w):=by unfold zw;split<;>rfl
theorem tyOk_own:qi7 (some (zw v ty cs)) ty=true:=by
 unfold zw;split
 ·rfl
 ·simp[qi7]
theorem cells_own0:((cellsOf (zw v ty cs::l) 0 v).getD [])=cs:=by
 unfold zw;split
 ·rename_i e;rw[e];rfl
 ·rw[cellsOf_0,if_pos rfl];rfl
theorem cellsS_own0:((cellsOf (zw v ty cs::l) 0 v).isSome=true)=(cs≠ []):=by
 unfold zw;split
 ·rename_i e;rw[e];simp[cellsOf,qq]
 ·rename_i e;rw[cellsOf_0,if_pos rfl];simp[e]
theorem qoq{b:AV}:qgh (some (zw v ty cs)) ty w c (n+1) (b::ms)=zw (w+1) ty (cs.take c++b::ms):=by
 rw[show zw (w+1) ty (cs.take c++b::ms)= .mem (w+1) ty (cs.take c++b::ms)from cb (by simp)];unfold zw;split
 ·rename_i e;rw[e];simp[qgh]
 ·rfl
theorem appO_own1{b:AV}:qgh (some (zw v ty cs)) ty w c 1 (b::ms)=zw (w+1) ty (cs.take c++b::ms):=qoq (n:=0)
end
attribute [go_sem] liveS_own0 tyOk_own cells_own0 cellsS_own0 appO_own1
end AF
end
section
namespace AF
open Go
def LowI(h hh:we):Prop:=hh.length=h.length∧ ∀o∈hh,o∈h∨(lowO h.length o∧lowO (h.length+1) o)
theorem LowI.refl(h:we):LowI h h:=⟨rfl,λ_ ho=> .inl ho⟩
theorem jW{hh tl:we}{o:AObj}{k:Nat}(h:hh.length=k):qq k (hh++o::tl)=some o:=by subst h;exact getO_app0
theorem qbn{hh tl:we}{o o':AObj}{k:Nat}(h:hh.length=k):qn k (hh++o::tl) o'=hh++o'::tl:=by subst h;exact setO_app0
def qi8(P:Program)(f:FuncId)(cap:wg)(xs:List wg):Prop:=
 ∀(h:we) (ts:wg) (L:LInfo) (S:Nat->we->Prop) (E:LS->we->Prop),
  (∀i hh,S i hh->LowI h hh)->(∀s hh,E s hh->LowI h hh)->
  (∀i hh tl,(hi:i<xs.length)->S i hh->jD P h.length (xs[i]) (hh++ .lp .ready ts L::tl) (λr h'=> ∃hh',(r= .bool true∧S (i+1) hh'∧h'=hh'++ .lp .ready ts L::tl)∨(∃s,r= .bool false∧E s hh'∧h'=hh'++ .lp s ts L::tl)))->
  S 0 h->(∀c∈ts,qS (h.length+1) c=true)->
  zU P f (.yld h.length::cap) (h++ [.lp .ready ts L]) (λ_ h'=> ∃hh,(S xs.length hh∧h'=hh++ [.lp .ready ts L])∨ ∃s,E s hh∧h'=hh++ [.lp s ts L])
theorem qid{P:Program}{f:FuncId}{cap:wg}{xs:List wg}(hf:qi8 P f cap xs){ps:List Nat}{b:Nat}{x y:C}{Q:Ex->Nx}{ts:wg}{h:we}(hps: ∀a∈xs,a.length=ps.length)
  (S:Nat->we->Prop) (E:Ex->we->Prop) (hS: ∀i hh,S i hh->LowI h hh) (hE: ∀s hh,E s hh->LowI h hh)
  (start:S 0 h) (hts: ∀c∈ts,qS (h.length+1) c=true)
  (body: ∀i hh tl L,(hi:i<xs.length)->S i hh->hh.length=h.length->
   qW P b x (λe t2 h2=>e= .normal∧h2=hh++ .lp .ready ts L::tl∧
    qW P b y (λe t3 h3=> ∃hh',h3=hh'++ .lp .busy ts L::tl∧hh'.length=h.length∧match e with
     | .normal=>S (i+1) hh'
     | .ret=>E .ret hh'
     | .exit id=>E (.exit id) hh') t2 (hh++ .lp .busy ts L::tl)) (jV ts ps (xs[i])) (hh++ .lp .ready ts L::tl))
  (done: ∀hh,S xs.length hh->Q .normal ts hh) (doneE: ∀e hh,E e hh->match e with
   | .normal=>False
   |e=>Q e ts hh):
  qeS P (.fn (.func f) [] cap) ps (qW P b x) (qW P b y) Q ts h:=by
 intro L hy;show zU _ _ _ _ _;have key:=hf h ts L S (λs hh=>match s with
  | .ret=>E .ret hh
  | .exit id=>E (.exit id) hh
  |_=>False) hS
  (by
   intro s hh hs;cases s with
   |ret=>exact hE _ _ hs
   |exit id=>exact hE _ _ hs
   |ready=>exact hs.elim
   |busy=>exact hs.elim)
  (by
   intro i hh tl hi i4;have hlen:=(hS _ _ i4).1;refine hy h.length ts _ _ _ (jW hlen) (hps _ (List.getElem_mem hi)) ?_;have hb:=body i hh tl L hi i4 hlen;refine UH ?_ hb;rintro e t2 h2 ⟨rfl,rfl,h3⟩;refine⟨rfl,⟨ts,jW hlen⟩,λts' hts'=> ?_⟩;rw[jW hlen]at hts';cases hts';rw[qbn hlen];refine UH ?_ h3;rintro e t3 h3' ⟨hh',rfl,g1,g2⟩;refine⟨ts,jW g1,?_⟩;cases e with
   |normal=>exact⟨hh',.inl ⟨rfl,g2,qbn g1⟩⟩
   |ret=>exact⟨hh',.inr ⟨.ret,rfl,g2,qbn g1⟩⟩
   |exit id=>exact⟨hh',.inr ⟨.exit id,rfl,g2,qbn g1⟩⟩)
  start hts
 refine key.le (qaI.refl _) ?_;rintro v h' ⟨hh,⟨g1,rfl⟩|⟨s,g1,rfl⟩⟩
 ·have hl:=hS _ _ g1;exact⟨v,VLe.refl _,hh,.ready,ts,L,rfl,hl.1,λo ho=>(hl.2 o ho).imp (λh=>h) And.left,done hh g1⟩
 ·cases s with
  |ready=>exact g1.elim
  |busy=>exact g1.elim
  |ret=>
   have hl:=hE _ _ g1;exact⟨v,VLe.refl _,hh,.ret,ts,L,rfl,hl.1,λo ho=>(hl.2 o ho).imp (λh=>h) And.left,doneE _ _ g1⟩
  |exit id=>
   have hl:=hE _ _ g1;exact⟨v,VLe.refl _,hh,.exit id,ts,L,rfl,hl.1,λo ho=>(hl.2 o ho).imp (λh=>h) And.left,doneE _ _ g1⟩
theorem qgy{rs:List RV}{h0 h':we}{K:AV->we->Prop}{t:wg}{r:AV}(hok:kp t h' rs)(hl:h'.length=h0.length)(hlow: ∀o∈h',o∈h0∨lowO h0.length o)(hK:K r h')
  (hv:VLe (frz (λk=>decide (h0.length<=k)) h' 8 (qfI (zY t h' rs))) r):fnQ rs h0 K .ret t h':=
 ⟨r,h',hK,hok,⟨[],(List.append_nil _).symm⟩,hl,hlow,VOut.of 8 hv⟩
theorem zQ{rs:List RV}{h0 h':we}{K:AV->we->Prop}{t:wg}{r:AV}(hok:kp t h' rs)(hl:h'.length=h0.length)(hlow: ∀o∈h',o∈h0∨lowO h0.length o)(hK:K r h')
  (hv:VLe (frz (λk=>decide (h0.length<=k)) h' 8 (qfI (zY t h' rs))) r):fnQ rs h0 K .normal t h':=
 ⟨r,h',hK,hok,⟨[],(List.append_nil _).symm⟩,hl,hlow,VOut.of 8 hv⟩
end AF
end
section
namespace AF
open Go
section
variable {P : Program} {b : Nat} {r : List RO} {K : Nx} {t : wg} {h : we} {xs : List X}
theorem qDb{d:Nat}:opsA P b (⟨some d,none,.b2s,xs⟩::r) K t h=(flags (evs t xs)∧okL h .b2s (strips (evs t xs))∧opsA P b r K (jd d t (valL h .b2s (strips (evs t xs)))) h):=by simp only[opsA,stepO,stepA,R.kd,qT]
theorem qDh{d:Option Nat}:opsA P b (⟨d,none,.s2b,xs⟩::r) K t h=(flags (evs t xs)∧effE b h .s2b (strips (evs t xs)) t d (opsA P b r K)):=by simp only[opsA,stepO,stepA,R.kd]
theorem qB9{nx:wg->we->Prop}{d:Option Nat}{s:List UInt8}:effE b h .s2b [.str s] t d nx=((s.length:Int)<=140737488355328∧nx (qT t d (.sl s.length λi=> [.int .u8 ((s.getD i 0).toNat:Int)])) h):=(rfl)
end
theorem w_gix{P:Program}{b:Nat}{r:List RO}{K:Nx}{t:wg}{h:we}{xs:List X}{d:Option Nat}{g n sz:Nat}:opsA P b (⟨d,none,.gix g n sz,xs⟩::r) K t h=(flags (evs t xs)∧effE b h (.gix g n sz) (strips (evs t xs)) t d (opsA P b r K)):=by simp only[opsA,stepO,stepA,R.kd]
attribute [go_sem] w_gix
theorem qrZ{b:Nat}{t:wg}{h:we}{nx:wg->we->Prop}{d:Option Nat}{g n sz:Nat}{k:IntKind}{i:Int}{cs:wg}(hg:z6 h g cs)(h0:0<=i∧i<n)(h2:cs.length=n*sz)(hn:nx (qT t d (.ip ((cs.drop (i.toNat*sz)).take sz))) h):
  effE b h (.gix g n sz) [.int k i] t d nx:=⟨cs,hg,h0,h2,hn⟩
theorem z6.app{h l:we}{g:Nat}{cs:wg}(hg:z6 h g cs):z6 (h++l) g cs:=by
 obtain⟨k,bs,G,h1,h2⟩:=hg;exact⟨k,bs,G,by rw[List.getElem?_append_left (List.getElem?_eq_some_iff.1 h1).1];exact h1,h2⟩
theorem qem(c:UInt8):qaa (.int .u8 (c.toNat:Int))=c:=by simp[qaa]
theorem qeC(c:UInt8):qcP (.int .u8 (c.toNat:Int)):=by
 have:=c.toNat_lt
 exact⟨by omega,by omega⟩
theorem jp(s:List UInt8):(zC s).length=s.length:=by simp[zC]
theorem qf8{g:we}:valL g .b2s [.nl]= .str []:=rfl
theorem qh7{g:we}:okL g .b2s [.nl]=True:=rfl
theorem qfb{g:we}{k v z p n:Nat}:valL g .b2s [.osl k v z p n]= .str (((((cellsOf g k v).getD []).drop p).take n).map qaa):=rfl
theorem qfE{g:we}{k v z p n:Nat}:okL g .b2s [.osl k v z p n]=(qE g k v=true∧z=1∧p+n<=((cellsOf g k v).getD []).length∧ ∀c∈((((cellsOf g k v).getD []).drop p).take n),qcP c):=rfl
theorem quL{x:AV}{q:Bool}:jU (.bool false) x (.bool q)= .bool q:=by
 unfold jU;simp only[AV.strip,U9];split
 ·rename_i p' q' h1 h2;cases h2;simp
 ·simp
theorem quM{y:AV}{p:Bool}:jU (.bool true) (.bool p) y= .bool p:=by
 unfold jU;simp only[AV.strip,U9];split
 ·rename_i p' q' h1 h2;cases h1;simp
 ·simp
attribute [go_sem] quL quM
theorem qke{P:Program}{f:FuncId}{first cap args:wg}{d:Option Nat}{nx:Nx}{t:wg}{h:we}{R:AV->we->Prop}(hc:zU P f (first++args++cap) h R)(hn: ∀v h',R v h'->nx (qT t d v) h'):qab P (.fn (.func f) first cap::args) d nx t h:=⟨R,hc,hn⟩
theorem qF{P:Program}{f:Nat}{first cap args:wg}{d:Option Nat}{nx:Nx}{t:wg}{h:we}{v:AV}(hc:ACalls P f (first++args++cap) h v h)(hn:nx (qT t d v) h):qab P (.fn (.func f) first cap::args) d nx t h:=⟨_,hc.toQ,by rintro _ _ ⟨rfl,rfl⟩;exact hn⟩
attribute [go_sem] qDb qDh qB9 qf8 qh7 qfb qfE
end AF
end
section
namespace AF
open Go
section
variable {P : Program} {b : Nat} {r : List RO} {K : Nx} {t : wg} {h : we} {xs : List X}
end
theorem valL_capnl{g:we}:valL g .cap [.nl]= .int .i64 0:=rfl
theorem qlY{g:we}:okL g .cap [.nl]=True:=rfl
theorem qiY{g:we}{z:Nat}{lo hi:Bool}{bs:wg}:valL g (.slc z lo hi) (.nl::bs)= .nl:=rfl
attribute [go_sem] valL_capnl qlY qiY
end AF
end
section
namespace AF
open Go
section
variable {P : Program} {b : Nat} {K : Nx} {t : wg} {h : we}
theorem t_nil:qbu P b .nil K t h=K t h:=(rfl)
theorem t_one{o:RO}{r:DT}:qbu P b (.one o r) K t h=opsA P b [o] (qbu P b r K) t h:=(rfl)
theorem t_two{x y:DT}:qbu P b (.two x y) K t h=(qbu P b x K t h∧qbu P b y K t h):=(rfl)
theorem t_univ{r:DT}{d:Option Nat}{xs:List X}:qbu P b (.uni ⟨d,none,.callv,xs⟩ r) K t h=qkc P (evs t xs) d (qbu P b r K) t h:=(rfl)
theorem qkd{f:Nat}{first cap args:wg}{d:Option Nat}{nx:Nx}{v:AV}(hc:ACalls P f (first++strips args++cap) h v h)(hf:flags (.fn (.func f) first cap::args))(hn:nx (qT t d v) h):qkc P (.fn (.func f) first cap::args) d nx t h:=⟨hf,v,hc,hn⟩
theorem t_uni{r:DT}{d:Option Nat}{f:Nat}{p:Bool}{xs:List X}:qbu P b (.uni ⟨d,none,.call f p,xs⟩ r) K t h=qoM P f (evs t xs) d (qbu P b r K) t h:=(rfl)
theorem kg{d:DT}{Q:Ex->Nx}(T:wg)(H:we)(h1:qbu P b d (λt' h'=>t'=T∧h'=H) t h)(h2:Q .normal T H):qW P b (.draw d) Q t h:=
 ⟨_,h1,λt' h' ⟨e1,e2⟩=>by subst e1;subst e2;exact h2⟩
theorem qoN{f:Nat}{vs:wg}{d:Option Nat}{nx:Nx}{r:AV}(hc: ∀h0,ACalls P f (strips vs) h0 r h0)(hf:flags vs)(hn:nx (qT t d r) h):qoM P f vs d nx t h:=⟨hf,r,hc,hn⟩
end
attribute [go_sem] t_univ t_nil t_one t_two t_uni
end AF
end
section
namespace AF
open Go
section
variable {P : Program} {b : Nat} {r : List RO} {K : Nx} {t : wg} {h l : we} {xs : List X} {ks : AK} {ok : Bool} {z : AV} {d : Option Nat} {nx : wg -> we -> Prop}
theorem wg_mlk{d j:Nat}{u:Bool}:opsA P b (⟨some d,some (j,u),.mlk ks ok z,xs⟩::r) K t h=(zk (zD j t)=true∧(qO (zD j t) u=true->flags (evs t xs)∧okL h (.mlk ks ok z) (strips (evs t xs)))∧opsA P b r K (jd d t (.gd (qO (zD j t) u) (valL h (.mlk ks ok z) (strips (evs t xs))))) h):=by simp only[opsA,stepO,j0,R.kd,qT]
theorem w_mkmap{j:Nat}:opsA P b (⟨d,none,.mkmap j,xs⟩::r) K t h=(flags (evs t xs)∧effE b h (.mkmap j) (strips (evs t xs)) t d (opsA P b r K)):=by simp only[opsA,stepO,stepA,R.kd]
theorem w_mupd:opsA P b (⟨d,none,.mupd ks,xs⟩::r) K t h=(flags (evs t xs)∧effE b h (.mupd ks) (strips (evs t xs)) t d (opsA P b r K)):=by simp only[opsA,stepO,stepA,R.kd]
theorem w_cpy{sz:Nat}:opsA P b (⟨d,none,.cpy sz,xs⟩::r) K t h=(flags (evs t xs)∧effE b h (.cpy sz) (strips (evs t xs)) t d (opsA P b r K)):=by simp only[opsA,stepO,stepA,R.kd]
theorem e_cpy{sz sz' k ver off m:Nat}{y:AV}:effE b h (.cpy sz) [.osl k ver sz' off m,y] t d nx=((qE h k ver=true∧(cellsOf h k ver).isSome=true∧sz'=sz∧off+m*sz<=((cellsOf h k ver).getD []).length∧(qj h y).isSome=true∧((qj h y).getD (0,[])).2.length=((qj h y).getD (0,[])).1*sz)∧
  nx (qT t d (.int .i64 ((min ((qj h y).getD (0,[])).1 m:Nat):Int))) (qn k h (.mem ver (qiO (qq k h)) (((cellsOf h k ver).getD []).take off++((qj h y).getD (0,[])).2.take (min ((qj h y).getD (0,[])).1 m*sz)++((cellsOf h k ver).getD []).drop (off+min ((qj h y).getD (0,[])).1 m*sz))))):=(rfl)
theorem e_mkmap{j:Nat}:effE b h (.mkmap j) [] t d nx=(qH h (b+j)=true∧nx (qT t d (.mp (b+j) (qo (qq (b+j) h)+1))) (qn (b+j) h (.map (qo (qq (b+j) h)+1) []))):=(rfl)
theorem e_mupd{k ver:Nat}{x v:AV}:effE b h (.mupd ks) [.mp k ver,x,v] t d nx=(((jb h k ver).isSome=true∧okK ks x∧(DV ks x ((jb h k ver).getD []) 0).isSome=true)∧
  nx (qT t d (.tup [])) (qn k h (.map ver (qpU ks x v ((jb h k ver).getD []))))):=(rfl)
end
section
variable {h l : we} {ks : AK} {ok : Bool} {z x : AV} {k ver n v w : Nat} {es : List (AV × AV)} {o : AObj}
theorem valL_mlk_t:valL h (.mlk ks true z) [.mp k ver,x]= .tup [(qeJ ks x z ((jb h k ver).getD [])).1,.bool (qeJ ks x z ((jb h k ver).getD [])).2]:=rfl
theorem valL_mlk_f:valL h (.mlk ks false z) [.mp k ver,x]=(qeJ ks x z ((jb h k ver).getD [])).1:=rfl
theorem okL_mlk:okL h (.mlk ks ok z) [.mp k ver,x]=((jb h k ver).isSome=true∧okK ks x∧(DV ks x ((jb h k ver).getD []) 0).isSome=true):=rfl
theorem mapOf_app:jb (h++l) (h.length+n) v=jb l n v:=by unfold jb;rw[getO_app];rfl
theorem mapOf_0:jb (.map w es::l) 0 v=if w=v then some es else none:=rfl
theorem mapOf_s:jb (o::l) (n+1) v=jb l n v:=rfl
theorem site_0_map:qH (.map v es::l) 0=true:=rfl
theorem verOf_map:qo (some (.map v es))=v:=rfl
theorem strip_mp:(AV.mp k v).strip=AV.mp k v:=rfl
theorem flag_mp:(AV.mp k v).flag=true:=rfl
theorem solid_mp:(AV.mp k v).solid=true:=rfl
theorem cells_mp:(AV.mp k v).cells= [AV.mp k v]:=rfl
theorem okK_str{s:List UInt8}:okK .str (.str s)=True:=rfl
theorem okK_int{q:IntKind}{i:Int}:okK .int (.int q i)=True:=rfl
theorem okK_bool{q:Bool}:okK .bool (.bool q)=True:=rfl
theorem frz_mp{fz:Nat->Bool}:frz fz h (n+1) (.mp k v)=if fz k then .undef else .mp k v:=rfl
end
attribute [go_sem] w_cpy e_cpy wg_mlk w_mkmap w_mupd e_mkmap e_mupd valL_mlk_t valL_mlk_f okL_mlk mapOf_app mapOf_0 mapOf_s site_0_map verOf_map strip_mp flag_mp solid_mp cells_mp okK_str okK_int okK_bool frz_mp
section
variable {P : Program} {b : Nat} {r : List RO} {K : Nx} {t : wg} {h : we} {xs : List X} {d : Nat}
end
theorem valP_idxI{z n:Nat}{f:Nat->wg}{k:IntKind}{i:Int}:valP (.idxI z) [.sl n f,.int k i]= .ip (f i.toNat):=rfl
theorem qqe{z n:Nat}{f:Nat->wg}{k:IntKind}{i:Int}:okP (.idxI z) [.sl n f,.int k i]=((0<=i∧i<n)∧(f i.toNat).length=z):=rfl
theorem qnS{z:Nat}{cs:wg}:valP (.fldI z) [.ip cs]= .ip (cs.drop z):=rfl
theorem qqd{z:Nat}{cs:wg}:okP (.fldI z) [.ip cs]=(z<cs.length):=rfl
theorem qi0{z:Option Nat}{cs:wg}:valP (.loadI z) [.ip cs]=cut cs 0 z:=rfl
theorem ql6{z:Option Nat}{cs:wg}:okP (.loadI z) [.ip cs]=jZ cs 0 z:=rfl
attribute [go_sem] valP_idxI qqe qnS qqd qi0 ql6
end AF
end
theorem gdqA{α:Type _}{l:List α}{i:Nat}{a:α}:l.getD i a=l[i]?.getD a:=List.getD_eq_getElem?_getD
theorem zH{α:Type _}{l:List α}{i:Nat}(h:i<l.length):l[i]? =some l[i]:=List.getElem?_eq_getElem h
theorem qi{v:AF.AV}:AF.VLe v v:=AF.VLe.refl v
theorem aiA{p q:Prop}(h1:p)(h2:q):p∧q:=⟨h1,h2⟩
theorem eqt{p : Prop}(h : p) : p = True := eq_true h
theorem eqf{p : Prop}(h : ¬p) : p = False := eq_false h
theorem dqt{p : Prop}[Decidable p](h : p) : decide p = true := decide_eq_true h
theorem dqf{p : Prop}[Decidable p](h : ¬p) : decide p = false := decide_eq_false h
theorem ipo{c : Prop}{h : Decidable c}(hc : c){α : Sort _}{t e : α} : ite c t e = t := if_pos hc
theorem ine{c : Prop}{h : Decidable c}(hc : ¬c){α : Sort _}{t e : α} : ite c t e = e := if_neg hc
theorem nzl(n : Nat) : 0 <= n := Nat.zero_le n
theorem nlr(n : Nat) : n <= n := Nat.le_refl n
theorem nnz(n : Nat) : ¬n < 0 := Nat.not_lt_zero n
theorem lap{α : Type _}{as bs : List α} : (as ++ bs).length = as.length + bs.length := List.length_append
theorem lnl{α : Type _} : ([] : List α).length = 0 := rfl
theorem lco{α : Type _}{a : α}{as : List α} : (a :: as).length = as.length + 1 := rfl
theorem lan{α : Type _}(as : List α) : as ++ [] = as := List.append_nil as
theorem lna{α : Type _}(as : List α) : [] ++ as = as := rfl
theorem lca{α : Type _}{a : α}{as bs : List α} : (a :: as) ++ bs = a :: (as ++ bs) := rfl
theorem itn(n : Nat) : ((n : Int)).toNat = n := rfl
theorem lgs{α : Type _}{a : α}{i : Nat}{l : List α} : l[i]? = some a ↔ ∃ h : i < l.length, l[i] = a := List.getElem?_eq_some_iff
theorem ltl{α : Type _}{i : Nat}{l : List α}(h : l.length <= i) : l.take i = l := List.take_of_length_le h
theorem om{p : Prop}(h : p := by omega) : p := h
open Go AF
theorem wa{p:Prop}(h:p:=by repeat' first|(with_reducible apply aiA)|(apply qe;omega)|(apply qd;rfl)|exact qi):p:=h
theorem wc{α:Sort _}(e:α): ∃R,R=e:=⟨_,rfl⟩
theorem wh{p:Prop}(h:p:=by omega):p=True:=eq_true h
theorem wi{p:Prop}(h: ¬p:=by omega):p=False:=eq_false h
