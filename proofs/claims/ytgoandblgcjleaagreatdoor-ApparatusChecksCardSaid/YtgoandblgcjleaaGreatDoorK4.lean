import Derived.Test.YtgoandblgcjleaaGreatDoorK2
import Derived.Test.YtgoandblgcjleaaGreatDoorK3
import Derived.Below
import Derived.ChangeSame
import Derived.ChangeShapes
import Derived.CallsIn
import Derived.Carry
import Derived.RowKit
import Derived.WalkKit
import Derived.ProofKit
set_option linter.all false
set_option linter.unusedSimpArgs false
set_option linter.unusedVariables false
set_option linter.unusedSectionVars false
section
namespace AF
open Go
set_option maxRecDepth 4000
def qwD(k:IntKind)(a c:Int):Int:=k.wrap (a*2^(min c.toNat k.bits))
def qvr(k:IntKind)(a c:Int):Int:=a.fdiv (2^(min c.toNat k.bits))
def qok(k:IntKind)(a c:Int):Int:=k.wrap (BitVec.ofInt k.bits a&&&BitVec.ofInt k.bits c).toNat
def orK(k:IntKind)(a c:Int):Int:=k.wrap (BitVec.ofInt k.bits a|||BitVec.ofInt k.bits c).toNat
def qFi(k:IntKind)(a c:Int):Int:=k.wrap (BitVec.ofInt k.bits a^^^BitVec.ofInt k.bits c).toNat
def qfK(k:IntKind)(a c:Int):Int:=k.wrap (BitVec.ofInt k.bits a&&& ~~~ BitVec.ofInt k.bits c).toNat
theorem qz2{a0:AV}{r:List AV}:zq 0 (a0::r)=a0:=rfl
theorem qAM{a0 v:AV}{r:List AV}:zQ 0 (a0::r) v=v::r:=rfl
theorem qz3{a0 a1:AV}{r:List AV}:zq 1 (a0::a1::r)=a1:=rfl
theorem qAN{a0 a1 v:AV}{r:List AV}:zQ 1 (a0::a1::r) v=a0::v::r:=rfl
theorem qz4{a0 a1 a2:AV}{r:List AV}:zq 2 (a0::a1::a2::r)=a2:=rfl
theorem qAO{a0 a1 a2 v:AV}{r:List AV}:zQ 2 (a0::a1::a2::r) v=a0::a1::v::r:=rfl
theorem qz5{a0 a1 a2 a3:AV}{r:List AV}:zq 3 (a0::a1::a2::a3::r)=a3:=rfl
theorem qAP{a0 a1 a2 a3 v:AV}{r:List AV}:zQ 3 (a0::a1::a2::a3::r) v=a0::a1::a2::v::r:=rfl
theorem qz6{a0 a1 a2 a3 a4:AV}{r:List AV}:zq 4 (a0::a1::a2::a3::a4::r)=a4:=rfl
theorem qAQ{a0 a1 a2 a3 a4 v:AV}{r:List AV}:zQ 4 (a0::a1::a2::a3::a4::r) v=a0::a1::a2::a3::v::r:=rfl
theorem qz7{a0 a1 a2 a3 a4 a5:AV}{r:List AV}:zq 5 (a0::a1::a2::a3::a4::a5::r)=a5:=rfl
theorem qAR{a0 a1 a2 a3 a4 a5 v:AV}{r:List AV}:zQ 5 (a0::a1::a2::a3::a4::a5::r) v=a0::a1::a2::a3::a4::v::r:=rfl
theorem qz8{a0 a1 a2 a3 a4 a5 a6:AV}{r:List AV}:zq 6 (a0::a1::a2::a3::a4::a5::a6::r)=a6:=rfl
theorem qAS{a0 a1 a2 a3 a4 a5 a6 v:AV}{r:List AV}:zQ 6 (a0::a1::a2::a3::a4::a5::a6::r) v=a0::a1::a2::a3::a4::a5::v::r:=rfl
theorem qz9{a0 a1 a2 a3 a4 a5 a6 a7:AV}{r:List AV}:zq 7 (a0::a1::a2::a3::a4::a5::a6::a7::r)=a7:=rfl
theorem qAT{a0 a1 a2 a3 a4 a5 a6 a7 v:AV}{r:List AV}:zQ 7 (a0::a1::a2::a3::a4::a5::a6::a7::r) v=a0::a1::a2::a3::a4::a5::a6::v::r:=rfl
theorem qut{n:Nat}{a0 a1 a2 a3 a4 a5 a6 a7:AV}{r:List AV}:zq (n+8) (a0::a1::a2::a3::a4::a5::a6::a7::r)=zq n r:=rfl
theorem qvm{n:Nat}{a0 a1 a2 a3 a4 a5 a6 a7 v:AV}{r:List AV}:zQ (n+8) (a0::a1::a2::a3::a4::a5::a6::a7::r) v=a0::a1::a2::a3::a4::a5::a6::a7::zQ n r v:=rfl
theorem qpN{n:Nat}{a0 a1 a2 a3 a4 a5 a6 a7 a8 a9 a10 a11 a12 a13 a14 a15 a16 a17 a18 a19 a20 a21 a22 a23 a24 a25 a26 a27 a28 a29 a30 a31:AV}{r:List AV}:zq (n+32) (a0::a1::a2::a3::a4::a5::a6::a7::a8::a9::a10::a11::a12::a13::a14::a15::a16::a17::a18::a19::a20::a21::a22::a23::a24::a25::a26::a27::a28::a29::a30::a31::r)=zq n r:=rfl
theorem qqN{n:Nat}{a0 a1 a2 a3 a4 a5 a6 a7 a8 a9 a10 a11 a12 a13 a14 a15 a16 a17 a18 a19 a20 a21 a22 a23 a24 a25 a26 a27 a28 a29 a30 a31 v:AV}{r:List AV}:zQ (n+32) (a0::a1::a2::a3::a4::a5::a6::a7::a8::a9::a10::a11::a12::a13::a14::a15::a16::a17::a18::a19::a20::a21::a22::a23::a24::a25::a26::a27::a28::a29::a30::a31::r) v=a0::a1::a2::a3::a4::a5::a6::a7::a8::a9::a10::a11::a12::a13::a14::a15::a16::a17::a18::a19::a20::a21::a22::a23::a24::a25::a26::a27::a28::a29::a30::a31::zQ n r v:=rfl
theorem qEm{t:List AV}{n:Nat}:ev t (.t n)=zq n t:=rfl
theorem qEl{t:List AV}{v:AV}:ev t (.c v)=v:=rfl
theorem qjb{b:Bool}:(AV.bool b).strip=(AV.bool b):=rfl
theorem qlw{b:Bool}:(AV.bool b).flag=true:=rfl
theorem qiV{b:Bool}:(AV.bool b).solid=true:=rfl
theorem qh2{b:Bool}:(AV.bool b).cells= [(AV.bool b)]:=rfl
theorem qnI{k:IntKind}{n:Int}:(AV.int k n).strip=(AV.int k n):=rfl
theorem qpu{k:IntKind}{n:Int}:(AV.int k n).flag=true:=rfl
theorem qnq{k:IntKind}{n:Int}:(AV.int k n).solid=true:=rfl
theorem qkU{k:IntKind}{n:Int}:(AV.int k n).cells= [(AV.int k n)]:=rfl
theorem qnM{s:List UInt8}:(AV.str s).strip=(AV.str s):=rfl
theorem qpy{s:List UInt8}:(AV.str s).flag=true:=rfl
theorem qnu{s:List UInt8}:(AV.str s).solid=true:=rfl
theorem qkY{s:List UInt8}:(AV.str s).cells= [(AV.str s)]:=rfl
theorem qre{n:Nat}{f:Nat→List AV}:(AV.sl n f).strip=(AV.sl n f):=rfl
theorem qui{n:Nat}{f:Nat→List AV}:(AV.sl n f).flag=true:=rfl
theorem qqZ{n:Nat}{f:Nat→List AV}:(AV.sl n f).solid=true:=rfl
theorem qo1{n:Nat}{f:Nat→List AV}:(AV.sl n f).cells= [(AV.sl n f)]:=rfl
theorem qnK{k v s p l:Nat}:(AV.osl k v s p l).strip=(AV.osl k v s p l):=rfl
theorem qpw{k v s p l:Nat}:(AV.osl k v s p l).flag=true:=rfl
theorem qns{k v s p l:Nat}:(AV.osl k v s p l).solid=true:=rfl
theorem qkW{k v s p l:Nat}:(AV.osl k v s p l).cells= [(AV.osl k v s p l)]:=rfl
theorem qnG{c:List AV}:(AV.agg c).strip=(AV.agg c):=rfl
theorem qps{c:List AV}:(AV.agg c).flag=true:=rfl
theorem qno{c:List AV}:(AV.agg c).solid=true:=rfl
theorem qnN{c:List AV}:(AV.tup c).strip=(AV.tup c):=rfl
theorem qpz{c:List AV}:(AV.tup c).flag=true:=rfl
theorem qkZ{c:List AV}:(AV.tup c).cells= [(AV.tup c)]:=rfl
theorem qrb{c:List AV}:(AV.ip c).strip=(AV.ip c):=rfl
theorem quf{c:List AV}:(AV.ip c).flag=true:=rfl
theorem qqW{c:List AV}:(AV.ip c).solid=true:=rfl
theorem qoY{c:List AV}:(AV.ip c).cells= [(AV.ip c)]:=rfl
theorem qrd{k v p:Nat}:(AV.op k v p).strip=(AV.op k v p):=rfl
theorem quh{k v p:Nat}:(AV.op k v p).flag=true:=rfl
theorem qqY{k v p:Nat}:(AV.op k v p).solid=true:=rfl
theorem qo0{k v p:Nat}:(AV.op k v p).cells= [(AV.op k v p)]:=rfl
theorem qje  :AV.nilp.strip=AV.nilp:=rfl
theorem qlz  :AV.nilp.flag=true:=rfl
theorem qiY  :AV.nilp.solid=true:=rfl
theorem qh5  :AV.nilp.cells= [AV.nilp]:=rfl
theorem qrc  :AV.nl.strip=AV.nl:=rfl
theorem qug  :AV.nl.flag=true:=rfl
theorem qqX  :AV.nl.solid=true:=rfl
theorem qoZ  :AV.nl.cells= [AV.nl]:=rfl
theorem qq9{f:Fn}{a c:List AV}:(AV.fn f a c).strip=(AV.fn f a c):=rfl
theorem qud{f:Fn}{a c:List AV}:(AV.fn f a c).flag=true:=rfl
theorem qqV{f:Fn}{a c:List AV}:(AV.fn f a c).solid=true:=rfl
theorem qoX{f:Fn}{a c:List AV}:(AV.fn f a c).cells= [(AV.fn f a c)]:=rfl
theorem qnO{k:Nat}:(AV.yld k).strip=(AV.yld k):=rfl
theorem qpA{k:Nat}:(AV.yld k).flag=true:=rfl
theorem qnv{k:Nat}:(AV.yld k).solid=true:=rfl
theorem qk0{k:Nat}:(AV.yld k).cells= [(AV.yld k)]:=rfl
theorem qgA  :AV.nilfn.strip=AV.nilfn:=rfl
theorem qil  :AV.nilfn.flag=true:=rfl
theorem qgp  :AV.nilfn.solid=true:=rfl
theorem qfS  :AV.nilfn.cells= [AV.nilfn]:=rfl
theorem qnH  :AV.ifc.strip=AV.ifc:=rfl
theorem qpt  :AV.ifc.flag=true:=rfl
theorem qnp  :AV.ifc.solid=true:=rfl
theorem qkT  :AV.ifc.cells= [AV.ifc]:=rfl
theorem qgB  :AV.nilif.strip=AV.nilif:=rfl
theorem qim  :AV.nilif.flag=true:=rfl
theorem qgq  :AV.nilif.solid=true:=rfl
theorem qfT  :AV.nilif.cells= [AV.nilif]:=rfl
theorem qgE:AV.undef.strip=AV.undef:=rfl
theorem qip:AV.undef.flag=true:=rfl
theorem qkS{c:List AV}:(AV.agg c).cells=c:=rfl
theorem qra{g:Bool}{v:AV}:(AV.gd g v).strip=v:=rfl
theorem que{g:Bool}{v:AV}:(AV.gd g v).flag=g:=rfl
theorem qFa{P:Program}{b:Nat}{r:List RO}{K:Nx}{t:List AV}{h:List AObj}{d:Nat} {x:X}:qF P b (⟨some d,none,.mv,[x]⟩::r) K t h=((ev t x).flag=true∧qF P b r K (zQ d t ((ev t x).strip)) h):=by simp only[qF,qJ,zC,R.kd,evs,flags,strips,qV,okP,okL,valP,valL,and_true,true_and,and_assoc]
theorem qDb{P:Program}{b:Nat}{r:List RO}{K:Nx}{t:List AV}{h:List AObj}{d:Nat} {x:X}{j:Nat}{u:Bool}:qF P b (⟨some d,some (j,u),.mv,[x]⟩::r) K t h=(zc (zq j t)=true∧(qM (zq j t) u=true→(ev t x).flag=true)∧qF P b r K (zQ d t (.gd (qM (zq j t) u) ((ev t x).strip))) h):=by simp only[qF,qJ,jZ,R.kd,evs,flags,strips,qV,okP,okL,valP,valL,and_true,true_and,and_assoc]
theorem qC3{P:Program}{b:Nat}{r:List RO}{K:Nx}{t:List AV}{h:List AObj}{d:Nat}{q:BinOp}{x y:X}:qF P b (⟨some d,none,.bin q,[x,y]⟩::r) K t h=((ev t x).flag=true∧(ev t y).flag=true∧qao q (ev t x).strip (ev t y).strip∧qF P b r K (zQ d t (qaH q (ev t x).strip (ev t y).strip)) h):=by simp only[qF,qJ,zC,R.kd,evs,flags,strips,qV,okP,okL,valP,valL,and_true,true_and,and_assoc]
theorem qBs{P:Program}{b:Nat}{r:List RO}{K:Nx}{t:List AV}{h:List AObj}{d:Nat}{q:BinOp}{x y:X}{j:Nat}{u:Bool}:qF P b (⟨some d,some (j,u),.bin q,[x,y]⟩::r) K t h=(zc (zq j t)=true∧(qM (zq j t) u=true→(ev t x).flag=true∧(ev t y).flag=true∧qao q (ev t x).strip (ev t y).strip)∧qF P b r K (zQ d t (.gd (qM (zq j t) u) (qaH q (ev t x).strip (ev t y).strip))) h):=by simp only[qF,qJ,jZ,R.kd,evs,flags,strips,qV,okP,okL,valP,valL,and_true,true_and,and_assoc]
theorem qwc{P:Program}{b:Nat}{r:List RO}{K:Nx}{t:List AV}{h:List AObj}{d:Nat}{n:Bool}{xs:List X}{j:Nat}{u:Bool}:qF P b (⟨some d,some (j,u),.bool n,xs⟩::r) K t h=(zc (zq j t)=true∧(qM (zq j t) u=true→flags (evs t xs)∧okP (.bool n) (strips (evs t xs)))∧qF P b r K (zQ d t (.gd (qM (zq j t) u) (valP (.bool n) (strips (evs t xs))))) h):=by simp only[qF,qJ,jZ,R.kd,qV]
theorem qFb{P:Program}{b:Nat}{r:List RO}{K:Nx}{t:List AV}{h:List AObj}{d:Nat}{q:UnOp}{xs:List X}:qF P b (⟨some d,none,.un q,xs⟩::r) K t h=(flags (evs t xs)∧okP (.un q) (strips (evs t xs))∧qF P b r K (zQ d t (valP (.un q) (strips (evs t xs)))) h):=by simp only[qF,qJ,zC,R.kd,qV]
theorem qDc{P:Program}{b:Nat}{r:List RO}{K:Nx}{t:List AV}{h:List AObj}{d:Nat}{q:UnOp}{xs:List X}{j:Nat}{u:Bool}:qF P b (⟨some d,some (j,u),.un q,xs⟩::r) K t h=(zc (zq j t)=true∧(qM (zq j t) u=true→flags (evs t xs)∧okP (.un q) (strips (evs t xs)))∧qF P b r K (zQ d t (.gd (qM (zq j t) u) (valP (.un q) (strips (evs t xs))))) h):=by simp only[qF,qJ,jZ,R.kd,qV]
theorem qA9{P:Program}{b:Nat}{r:List RO}{K:Nx}{t:List AV}{h:List AObj}{d:Nat}{k:IntKind}{xs:List X}:qF P b (⟨some d,none,.conv k,xs⟩::r) K t h=(flags (evs t xs)∧okP (.conv k) (strips (evs t xs))∧qF P b r K (zQ d t (valP (.conv k) (strips (evs t xs)))) h):=by simp only[qF,qJ,zC,R.kd,qV]
theorem qvN{P:Program}{b:Nat}{r:List RO}{K:Nx}{t:List AV}{h:List AObj}{d:Nat}{k:NK}{n:Bool}{xs:List X}:qF P b (⟨some d,none,.isnil k n,xs⟩::r) K t h=(flags (evs t xs)∧okP (.isnil k n) (strips (evs t xs))∧qF P b r K (zQ d t (valP (.isnil k n) (strips (evs t xs)))) h):=by simp only[qF,qJ,zC,R.kd,qV]
theorem qC5{P:Program}{b:Nat}{r:List RO}{K:Nx}{t:List AV}{h:List AObj}{d:Nat}{i:Nat}{xs:List X}:qF P b (⟨some d,none,.ext i,xs⟩::r) K t h=(flags (evs t xs)∧okP (.ext i) (strips (evs t xs))∧qF P b r K (zQ d t (valP (.ext i) (strips (evs t xs)))) h):=by simp only[qF,qJ,zC,R.kd,qV]
theorem qvL{P:Program}{b:Nat}{r:List RO}{K:Nx}{t:List AV}{h:List AObj}{d:Nat}{z:List AV}{ps:List (Nat×Nat)}{xs:List X}:qF P b (⟨some d,none,.build z ps,xs⟩::r) K t h=(flags (evs t xs)∧okP (.build z ps) (strips (evs t xs))∧qF P b r K (zQ d t (valP (.build z ps) (strips (evs t xs)))) h):=by simp only[qF,qJ,zC,R.kd,qV]
theorem qBf{P:Program}{b:Nat}{r:List RO}{K:Nx}{t:List AV}{h:List AObj}{d:Nat}{f:Fn}{n:Nat}{xs:List X}:qF P b (⟨some d,none,.mkfn f n,xs⟩::r) K t h=(flags (evs t xs)∧okP (.mkfn f n) (strips (evs t xs))∧qF P b r K (zQ d t (valP (.mkfn f n) (strips (evs t xs)))) h):=by simp only[qF,qJ,zC,R.kd,qV]
theorem qwh{P:Program}{b:Nat}{r:List RO}{K:Nx}{t:List AV}{h:List AObj}{d:Nat}{f:Fn}{n:Nat}{xs:List X}{j:Nat}{u:Bool}:qF P b (⟨some d,some (j,u),.mkfn f n,xs⟩::r) K t h=(zc (zq j t)=true∧(qM (zq j t) u=true→flags (evs t xs)∧okP (.mkfn f n) (strips (evs t xs)))∧qF P b r K (zQ d t (.gd (qM (zq j t) u) (valP (.mkfn f n) (strips (evs t xs))))) h):=by simp only[qF,qJ,jZ,R.kd,qV]
theorem qBj{P:Program}{b:Nat}{r:List RO}{K:Nx}{t:List AV}{h:List AObj}{d:Nat} {xs:List X}:qF P b (⟨some d,none,.slen,xs⟩::r) K t h=(flags (evs t xs)∧okP (.slen) (strips (evs t xs))∧qF P b r K (zQ d t (valP (.slen) (strips (evs t xs)))) h):=by simp only[qF,qJ,zC,R.kd,qV]
theorem qwk{P:Program}{b:Nat}{r:List RO}{K:Nx}{t:List AV}{h:List AObj}{d:Nat} {xs:List X}{j:Nat}{u:Bool}:qF P b (⟨some d,some (j,u),.slen,xs⟩::r) K t h=(zc (zq j t)=true∧(qM (zq j t) u=true→flags (evs t xs)∧okP (.slen) (strips (evs t xs)))∧qF P b r K (zQ d t (.gd (qM (zq j t) u) (valP (.slen) (strips (evs t xs))))) h):=by simp only[qF,qJ,jZ,R.kd,qV]
theorem qBi{P:Program}{b:Nat}{r:List RO}{K:Nx}{t:List AV}{h:List AObj}{d:Nat} {xs:List X}:qF P b (⟨some d,none,.sidx,xs⟩::r) K t h=(flags (evs t xs)∧okP (.sidx) (strips (evs t xs))∧qF P b r K (zQ d t (valP (.sidx) (strips (evs t xs)))) h):=by simp only[qF,qJ,zC,R.kd,qV]
theorem qA6{P:Program}{b:Nat}{r:List RO}{K:Nx}{t:List AV}{h:List AObj}{d n1 n2:Nat}{n3:Option Nat} {xs:List X}:qF P b (⟨some d,none,(.aidx n1 n2 n3),xs⟩::r) K t h=(flags (evs t xs)∧okP (.aidx n1 n2 n3) (strips (evs t xs))∧qF P b r K (zQ d t (valP (.aidx n1 n2 n3) (strips (evs t xs)))) h):=by simp only[qF,qJ,zC,R.kd,qV]
theorem qwj{P:Program}{b:Nat}{r:List RO}{K:Nx}{t:List AV}{h:List AObj}{d:Nat} {xs:List X}{j:Nat}{u:Bool}:qF P b (⟨some d,some (j,u),.sidx,xs⟩::r) K t h=(zc (zq j t)=true∧(qM (zq j t) u=true→flags (evs t xs)∧okP (.sidx) (strips (evs t xs)))∧qF P b r K (zQ d t (.gd (qM (zq j t) u) (valP (.sidx) (strips (evs t xs))))) h):=by simp only[qF,qJ,jZ,R.kd,qV]
theorem qBk{P:Program}{b:Nat}{r:List RO}{K:Nx}{t:List AV}{h:List AObj}{d:Nat}{lo hi:Bool}{xs:List X}:qF P b (⟨some d,none,.sslc lo hi,xs⟩::r) K t h=(flags (evs t xs)∧okP (.sslc lo hi) (strips (evs t xs))∧qF P b r K (zQ d t (valP (.sslc lo hi) (strips (evs t xs)))) h):=by simp only[qF,qJ,zC,R.kd,qV]
theorem qwl{P:Program}{b:Nat}{r:List RO}{K:Nx}{t:List AV}{h:List AObj}{d:Nat}{lo hi:Bool}{xs:List X}{j:Nat}{u:Bool}:qF P b (⟨some d,some (j,u),.sslc lo hi,xs⟩::r) K t h=(zc (zq j t)=true∧(qM (zq j t) u=true→flags (evs t xs)∧okP (.sslc lo hi) (strips (evs t xs)))∧qF P b r K (zQ d t (.gd (qM (zq j t) u) (valP (.sslc lo hi) (strips (evs t xs))))) h):=by simp only[qF,qJ,jZ,R.kd,qV]
theorem qE9{P:Program}{b:Nat}{r:List RO}{K:Nx}{t:List AV}{h:List AObj}{d:Nat}{m:Bool}{xs:List X}:qF P b (⟨some d,none,.mm m,xs⟩::r) K t h=(flags (evs t xs)∧okP (.mm m) (strips (evs t xs))∧qF P b r K (zQ d t (valP (.mm m) (strips (evs t xs)))) h):=by simp only[qF,qJ,zC,R.kd,qV]
theorem qC6{P:Program}{b:Nat}{r:List RO}{K:Nx}{t:List AV}{h:List AObj}{d:Nat} {xs:List X}:qF P b (⟨some d,none,.len,xs⟩::r) K t h=(flags (evs t xs)∧okL h (.len) (strips (evs t xs))∧qF P b r K (zQ d t (valL h (.len) (strips (evs t xs)))) h):=by simp only[qF,qJ,zC,R.kd,qV]
theorem qBt{P:Program}{b:Nat}{r:List RO}{K:Nx}{t:List AV}{h:List AObj}{d:Nat} {xs:List X}{j:Nat}{u:Bool}:qF P b (⟨some d,some (j,u),.len,xs⟩::r) K t h=(zc (zq j t)=true∧(qM (zq j t) u=true→flags (evs t xs)∧okL h (.len) (strips (evs t xs)))∧qF P b r K (zQ d t (.gd (qM (zq j t) u) (valL h (.len) (strips (evs t xs))))) h):=by simp only[qF,qJ,jZ,R.kd,qV]
theorem qBc{P:Program}{b:Nat}{r:List RO}{K:Nx}{t:List AV}{h:List AObj}{d:Nat}{z:Nat}{xs:List X}:qF P b (⟨some d,none,.idxA z,xs⟩::r) K t h=(flags (evs t xs)∧okL h (.idxA z) (strips (evs t xs))∧qF P b r K (zQ d t (valL h (.idxA z) (strips (evs t xs)))) h):=by simp only[qF,qJ,zC,R.kd,qV]
theorem qwf{P:Program}{b:Nat}{r:List RO}{K:Nx}{t:List AV}{h:List AObj}{d:Nat}{z:Nat}{xs:List X}{j:Nat}{u:Bool}:qF P b (⟨some d,some (j,u),.idxA z,xs⟩::r) K t h=(zc (zq j t)=true∧(qM (zq j t) u=true→flags (evs t xs)∧okL h (.idxA z) (strips (evs t xs)))∧qF P b r K (zQ d t (.gd (qM (zq j t) u) (valL h (.idxA z) (strips (evs t xs))))) h):=by simp only[qF,qJ,jZ,R.kd,qV]
theorem qrt{P:Program}{b:Nat}{r:List RO}{K:Nx}{t:List AV}{h:List AObj}{d:Nat}{m z:Nat}{xs:List X}:qF P b (⟨some d,none,.idxArr m z,xs⟩::r) K t h=(flags (evs t xs)∧okL h (.idxArr m z) (strips (evs t xs))∧qF P b r K (zQ d t (valL h (.idxArr m z) (strips (evs t xs)))) h):=by simp only[qF,qJ,zC,R.kd,qV]
theorem qBa{P:Program}{b:Nat}{r:List RO}{K:Nx}{t:List AV}{h:List AObj}{d:Nat}{p:Nat}{xs:List X}:qF P b (⟨some d,none,.fldA p,xs⟩::r) K t h=(flags (evs t xs)∧okL h (.fldA p) (strips (evs t xs))∧qF P b r K (zQ d t (valL h (.fldA p) (strips (evs t xs)))) h):=by simp only[qF,qJ,zC,R.kd,qV]
theorem qwe{P:Program}{b:Nat}{r:List RO}{K:Nx}{t:List AV}{h:List AObj}{d:Nat}{p:Nat}{xs:List X}{j:Nat}{u:Bool}:qF P b (⟨some d,some (j,u),.fldA p,xs⟩::r) K t h=(zc (zq j t)=true∧(qM (zq j t) u=true→flags (evs t xs)∧okL h (.fldA p) (strips (evs t xs)))∧qF P b r K (zQ d t (.gd (qM (zq j t) u) (valL h (.fldA p) (strips (evs t xs))))) h):=by simp only[qF,qJ,jZ,R.kd,qV]
theorem qBe{P:Program}{b:Nat}{r:List RO}{K:Nx}{t:List AV}{h:List AObj}{d:Nat}{n:Option Nat}{xs:List X}:qF P b (⟨some d,none,.load n,xs⟩::r) K t h=(flags (evs t xs)∧okL h (.load n) (strips (evs t xs))∧qF P b r K (zQ d t (valL h (.load n) (strips (evs t xs)))) h):=by simp only[qF,qJ,zC,R.kd,qV]
theorem qwg{P:Program}{b:Nat}{r:List RO}{K:Nx}{t:List AV}{h:List AObj}{d:Nat}{n:Option Nat}{xs:List X}{j:Nat}{u:Bool}:qF P b (⟨some d,some (j,u),.load n,xs⟩::r) K t h=(zc (zq j t)=true∧(qM (zq j t) u=true→flags (evs t xs)∧okL h (.load n) (strips (evs t xs)))∧qF P b r K (zQ d t (.gd (qM (zq j t) u) (valL h (.load n) (strips (evs t xs))))) h):=by simp only[qF,qJ,jZ,R.kd,qV]
theorem qru{P:Program}{b:Nat}{r:List RO}{K:Nx}{t:List AV}{h:List AObj}{d:Nat} {xs:List X}:qF P b (⟨some d,none,.nilchk,xs⟩::r) K t h=(flags (evs t xs)∧okL h (.nilchk) (strips (evs t xs))∧qF P b r K (zQ d t (valL h (.nilchk) (strips (evs t xs)))) h):=by simp only[qF,qJ,zC,R.kd,qV]
theorem qC9{P:Program}{b:Nat}{r:List RO}{K:Nx}{t:List AV}{h:List AObj}{d:Nat}{z:Nat}{lo hi:Bool}{xs:List X}:qF P b (⟨some d,none,.slc z lo hi,xs⟩::r) K t h=(flags (evs t xs)∧okL h (.slc z lo hi) (strips (evs t xs))∧qF P b r K (zQ d t (valL h (.slc z lo hi) (strips (evs t xs)))) h):=by simp only[qF,qJ,zC,R.kd,qV]
theorem qBu{P:Program}{b:Nat}{r:List RO}{K:Nx}{t:List AV}{h:List AObj}{d:Nat}{z:Nat}{lo hi:Bool}{xs:List X}{j:Nat}{u:Bool}:qF P b (⟨some d,some (j,u),.slc z lo hi,xs⟩::r) K t h=(zc (zq j t)=true∧(qM (zq j t) u=true→flags (evs t xs)∧okL h (.slc z lo hi) (strips (evs t xs)))∧qF P b r K (zQ d t (.gd (qM (zq j t) u) (valL h (.slc z lo hi) (strips (evs t xs))))) h):=by simp only[qF,qJ,jZ,R.kd,qV]
theorem qBh{P:Program}{b:Nat}{r:List RO}{K:Nx}{t:List AV}{h:List AObj}{d:Nat}{c x y:X}:qF P b (⟨some d,none,.pick,[c,x,y]⟩::r) K t h=(qaw (ev t c) (ev t x) (ev t y)∧qF P b r K (zQ d t (jK (ev t c) (ev t x) (ev t y))) h):=by simp only[qF,qJ,zC,R.kd,qV,evs]
theorem qwi{P:Program}{b:Nat}{r:List RO}{K:Nx}{t:List AV}{h:List AObj}{d:Nat}{c x y:X}{j:Nat}{u:Bool}:qF P b (⟨some d,some (j,u),.pick,[c,x,y]⟩::r) K t h=(zc (zq j t)=true∧(qM (zq j t) u=true→qaw (ev t c) (ev t x) (ev t y))∧qF P b r K (zQ d t (.gd (qM (zq j t) u) (jK (ev t c) (ev t x) (ev t y)))) h):=by simp only[qF,qJ,jZ,R.kd,qV,evs]
theorem qBg{P:Program}{b:Nat}{r:List RO}{K:Nx}{t:List AV}{h:List AObj}{d:Option Nat}{j z:Nat}{ty:TypeId}{xs:List X}:qF P b (⟨d,none,.nilo j z ty,xs⟩::r) K t h=(flags (evs t xs)∧jq b h (.nilo j z ty) (strips (evs t xs)) t d (qF P b r K)):=by simp only[qF,qJ,zC,R.kd]
theorem qvK{P:Program}{b:Nat}{r:List RO}{K:Nx}{t:List AV}{h:List AObj}{d:Option Nat}{j:Nat}{ty:TypeId}{z:List AV}{xs:List X}:qF P b (⟨d,none,.alloc j ty z,xs⟩::r) K t h=(flags (evs t xs)∧jq b h (.alloc j ty z) (strips (evs t xs)) t d (qF P b r K)):=by simp only[qF,qJ,zC,R.kd]
theorem qC4{P:Program}{b:Nat}{r:List RO}{K:Nx}{t:List AV}{h:List AObj}{d:Option Nat}{j:Nat}{ty:TypeId}{xs:List X}:qF P b (⟨d,none,.box j ty,xs⟩::r) K t h=(flags (evs t xs)∧jq b h (.box j ty) (strips (evs t xs)) t d (qF P b r K)):=by simp only[qF,qJ,zC,R.kd]
theorem qvQ{P:Program}{b:Nat}{r:List RO}{K:Nx}{t:List AV}{h:List AObj}{d:Option Nat}{n:Nat}{xs:List X}:qF P b (⟨d,none,.store n,xs⟩::r) K t h=(flags (evs t xs)∧jq b h (.store n) (strips (evs t xs)) t d (qF P b r K)):=by simp only[qF,qJ,zC,R.kd]
theorem qvP{P:Program}{b:Nat}{r:List RO}{K:Nx}{t:List AV}{h:List AObj}{d:Option Nat}{j z m:Nat}{ty:TypeId}{zs:List AV}{xs:List X}:qF P b (⟨d,none,.mkslc j z ty zs m,xs⟩::r) K t h=(flags (evs t xs)∧jq b h (.mkslc j z ty zs m) (strips (evs t xs)) t d (qF P b r K)):=by simp only[qF,qJ,zC,R.kd]
theorem qA7{P:Program}{b:Nat}{r:List RO}{K:Nx}{t:List AV}{h:List AObj}{d:Option Nat}{j z n:Nat}{ty:TypeId}{zs:List AV}{ps:List (Nat×Nat)}{xs:List X}:qF P b (⟨d,none,.bslc j z n ty zs ps,xs⟩::r) K t h=(flags (evs t xs)∧jq b h (.bslc j z n ty zs ps) (strips (evs t xs)) t d (qF P b r K)):=by simp only[qF,qJ,zC,R.kd]
theorem qC2{P:Program}{b:Nat}{r:List RO}{K:Nx}{t:List AV}{h:List AObj}{d:Option Nat}{j z m:Nat}{ty:TypeId}{xs:List X}:qF P b (⟨d,none,.app j z ty m,xs⟩::r) K t h=(flags (evs t xs)∧jq b h (.app j z ty m) (strips (evs t xs)) t d (qF P b r K)):=by simp only[qF,qJ,zC,R.kd]
theorem qA8{P:Program}{b:Nat}{r:List RO}{K:Nx}{t:List AV}{h:List AObj}{d:Option Nat}{f:Nat}{p:Bool}{xs:List X}:qF P b (⟨d,none,.call f p,xs⟩::r) K t h=qh0 P f p (evs t xs) d (qF P b r K) t h:=by simp only[qF,qJ,zC,R.kd]
theorem qwd{P:Program}{b:Nat}{r:List RO}{K:Nx}{t:List AV}{h:List AObj}{d:Option Nat}{f:Nat}{p:Bool}{xs:List X}{j:Nat}{u:Bool}:qF P b (⟨d,some (j,u),.call f p,xs⟩::r) K t h=(zc (zq j t)=true∧qkL P f p (qM (zq j t) u) (evs t xs) d (qF P b r K) t h):=by simp only[qF,qJ,jZ,R.kd]
theorem qvM{P:Program}{b:Nat}{r:List RO}{K:Nx}{t:List AV}{h:List AObj}{d:Option Nat}{xs:List X}:qF P b (⟨d,none,.callv,xs⟩::r) K t h=(flags (evs t xs)∧qb3 P (strips (evs t xs)) d (qF P b r K) t h):=by simp only[qF,qJ,zC,R.kd]
theorem qC7{P:Program}{b:Nat}{K:Nx}{t:List AV}{h:List AObj}:qF P b [] K t h=K t h:=(rfl)
theorem qt9{t:List AV}:evs t []= []:=rfl
theorem qpm{t:List AV}{x:X}{r:List X}:evs t (x::r)=ev t x::evs t r:=rfl
theorem qjh:strips []= []:=rfl
theorem qgF{x:AV}{r:List AV}:strips (x::r)=x.strip::strips r:=rfl
theorem qlC:flags []=True:=rfl
theorem qiq{x:AV}{r:List AV}:flags (x::r)=(x.flag=true∧flags r):=rfl
theorem qj9{k l:IntKind}{a c:Int}:qaH .add (.int k a) (.int l c)= .int k (k.wrap (a+c)):=rfl
theorem qjN{k l:IntKind}{a c:Int}:qao .add (.int k a) (.int l c)=(k=l):=rfl
theorem qkm{k l:IntKind}{a c:Int}:qaH .sub (.int k a) (.int l c)= .int k (k.wrap (a-c)):=rfl
theorem qj0{k l:IntKind}{a c:Int}:qao .sub (.int k a) (.int l c)=(k=l):=rfl
theorem qkg{k l:IntKind}{a c:Int}:qaH .mul (.int k a) (.int l c)= .int k (k.wrap (a*c)):=rfl
theorem qjU{k l:IntKind}{a c:Int}:qao .mul (.int k a) (.int l c)=(k=l):=rfl
theorem qki{k l:IntKind}{a c:Int}:qaH .quo (.int k a) (.int l c)= .int k (k.wrap (a.tdiv c)):=rfl
theorem qjW{k l:IntKind}{a c:Int}:qao .quo (.int k a) (.int l c)=(k=l∧c≠0):=rfl
theorem qkj{k l:IntKind}{a c:Int}:qaH .rem (.int k a) (.int l c)= .int k (a.tmod c):=rfl
theorem qjX{k l:IntKind}{a c:Int}:qao .rem (.int k a) (.int l c)=(k=l∧c≠0):=rfl
theorem qkk{k l:IntKind}{a c:Int}:qaH .shl (.int k a) (.int l c)= .int k (qwD k a c):=rfl
theorem qjY{k l:IntKind}{a c:Int}:qao .shl (.int k a) (.int l c)=(0≤c):=rfl
theorem qkl{k l:IntKind}{a c:Int}:qaH .shr (.int k a) (.int l c)= .int k (qvr k a c):=rfl
theorem qjZ{k l:IntKind}{a c:Int}:qao .shr (.int k a) (.int l c)=(0≤c):=rfl
theorem qkb{k l:IntKind}{a c:Int}:qaH .eql (.int k a) (.int l c)= .bool (decide (a=c)):=rfl
theorem qjP{k l:IntKind}{a c:Int}:qao .eql (.int k a) (.int l c)=(k=l):=rfl
theorem qkh{k l:IntKind}{a c:Int}:qaH .neq (.int k a) (.int l c)= .bool (!decide (a=c)):=rfl
theorem qjV{k l:IntKind}{a c:Int}:qao .neq (.int k a) (.int l c)=(k=l):=rfl
theorem qkf{k l:IntKind}{a c:Int}:qaH .lss (.int k a) (.int l c)= .bool (decide (a<c)):=rfl
theorem qjT{k l:IntKind}{a c:Int}:qao .lss (.int k a) (.int l c)=(k=l):=rfl
theorem qke{k l:IntKind}{a c:Int}:qaH .leq (.int k a) (.int l c)= .bool (decide (a≤c)):=rfl
theorem qjS{k l:IntKind}{a c:Int}:qao .leq (.int k a) (.int l c)=(k=l):=rfl
theorem qkd{k l:IntKind}{a c:Int}:qaH .gtr (.int k a) (.int l c)= .bool (decide (c<a)):=rfl
theorem qjR{k l:IntKind}{a c:Int}:qao .gtr (.int k a) (.int l c)=(k=l):=rfl
theorem qkc{k l:IntKind}{a c:Int}:qaH .geq (.int k a) (.int l c)= .bool (decide (c≤a)):=rfl
theorem qjQ{k l:IntKind}{a c:Int}:qao .geq (.int k a) (.int l c)=(k=l):=rfl
theorem qka{k l:IntKind}{a c:Int}:qaH .and (.int k a) (.int l c)= .int k (qok k a c):=rfl
theorem qjO{k l:IntKind}{a c:Int}:qao .and (.int k a) (.int l c)=(k=l):=rfl
theorem qoJ{k l:IntKind}{a c:Int}:qaH .or (.int k a) (.int l c)= .int k (orK k a c):=rfl
theorem qoI{k l:IntKind}{a c:Int}:qao .or (.int k a) (.int l c)=(k=l):=rfl
theorem qkn{k l:IntKind}{a c:Int}:qaH .xor (.int k a) (.int l c)= .int k (qFi k a c):=rfl
theorem qj1{k l:IntKind}{a c:Int}:qao .xor (.int k a) (.int l c)=(k=l):=rfl
theorem qeD{k l:IntKind}{a c:Int}:qaH .andNot (.int k a) (.int l c)= .int k (qfK k a c):=rfl
theorem qeC{k l:IntKind}{a c:Int}:qao .andNot (.int k a) (.int l c)=(k=l):=rfl
theorem qko{s u:List UInt8}:qaH .add (.str s) (.str u)= .str (s++u):=rfl
theorem qj2{s u:List UInt8}:qao .add (.str s) (.str u)=(s.length+u.length≤9223372036854775807):=rfl
theorem qkp{s u:List UInt8}:qaH .eql (.str s) (.str u)= .bool (decide (s=u)):=rfl
theorem qj3{s u:List UInt8}:qao .eql (.str s) (.str u)=True:=rfl
theorem qku{s u:List UInt8}:qaH .neq (.str s) (.str u)= .bool (!decide (s=u)):=rfl
theorem qj8{s u:List UInt8}:qao .neq (.str s) (.str u)=True:=rfl
theorem qkt{s u:List UInt8}:qaH .lss (.str s) (.str u)= .bool (Op.bytesLess s u):=rfl
theorem qj7{s u:List UInt8}:qao .lss (.str s) (.str u)=True:=rfl
theorem qks{s u:List UInt8}:qaH .leq (.str s) (.str u)= .bool (Op.bytesLess s u||decide (s=u)):=rfl
theorem qj6{s u:List UInt8}:qao .leq (.str s) (.str u)=True:=rfl
theorem qkr{s u:List UInt8}:qaH .gtr (.str s) (.str u)= .bool (!(Op.bytesLess s u||decide (s=u))):=rfl
theorem qj5{s u:List UInt8}:qao .gtr (.str s) (.str u)=True:=rfl
theorem qkq{s u:List UInt8}:qaH .geq (.str s) (.str u)= .bool (!Op.bytesLess s u):=rfl
theorem qj4{s u:List UInt8}:qao .geq (.str s) (.str u)=True:=rfl
theorem qn4{n p q:Bool}:valP (.bool n) [.bool p,.bool q]= .bool (n !=(p==q)):=rfl
theorem qqg{n p q:Bool}:okP (.bool n) [.bool p,.bool q]=True:=rfl
theorem qrr{p:Bool}:valP (.un .not) [.bool p]= .bool (!p):=rfl
theorem quT{p:Bool}:okP (.un .not) [.bool p]=True:=rfl
theorem qrq{k:IntKind}{n:Int}:valP (.un .neg) [.int k n]= .int k (k.wrap (0-n)):=rfl
theorem quS{k:IntKind}{n:Int}:okP (.un .neg) [.int k n]=True:=rfl
theorem qn5{k l:IntKind}{n:Int}:valP (.conv k) [.int l n]= .int k (k.wrap n):=rfl
theorem qqh{k l:IntKind}{n:Int}:okP (.conv k) [.int l n]=True:=rfl
theorem qdd{n:Bool}{x:AV}:valP (.isnil .ptr n) [x]= .bool (n !=(zj .ptr x).getD false):=rfl
theorem qd4{n:Bool}{x:AV}:okP (.isnil .ptr n) [x]=((zj .ptr x).isSome=true):=rfl
theorem qcY{n:Bool}{x:AV}:valP (.isnil .func n) [x]= .bool (n !=(zj .func x).getD false):=rfl
theorem qc5{n:Bool}{x:AV}:okP (.isnil .func n) [x]=((zj .func x).isSome=true):=rfl
theorem qb9{n:Bool}{x:AV}:valP (.isnil .iface n) [x]= .bool (n !=(zj .iface x).getD false):=rfl
theorem qcU{n:Bool}{x:AV}:okP (.isnil .iface n) [x]=((zj .iface x).isSome=true):=rfl
theorem qbk{n:Bool}{m:Nat}{f:Nat→List AV}:valP (.isnil .slice n) [.sl m f]=if m=0 then .anyb else .bool (n !=false):=rfl
theorem qfc{n:Bool}{m:Nat}{f:Nat→List AV}:okP (.isnil .slice n) [.sl m f]=True:=rfl
theorem qep{n:Bool}:valP (.isnil .slice n) [.nl]= .bool (n !=true):=rfl
theorem qh7(A B:Nx)(t:List AV)(h:List AObj):qfX .anyb A B t h=(A t h∧B t h):=rfl
theorem qja:AV.strip .anyb= .anyb:=rfl
theorem qlv:AV.flag .anyb=true:=rfl
theorem qiU:AV.solid .anyb=true:=rfl
theorem qh1:AV.cells .anyb= [.anyb]:=rfl
theorem qmi:zj .ptr .nilp=some true:=rfl
theorem qiz:zj .func .nilfn=some true:=rfl
theorem qiA:zj .iface .nilif=some true:=rfl
theorem quK:zj .slice .nl=some true:=rfl
theorem quJ{c:List AV}:zj .ptr (.ip c)=some false:=rfl
theorem quI{f:Fn}{a c:List AV}:zj .func (.fn f a c)=some false:=rfl
theorem qp3:zj .iface .ifc=some false:=rfl
theorem qrn{ks:List AK}{n:Bool}{x y:List AV}:valP (.aeq ks n) [.agg x,.agg y]= .bool (n !=(jE ks x y).getD false):=rfl
theorem quO{ks:List AK}{n:Bool}{x y:List AV}:okP (.aeq ks n) [.agg x,.agg y]=((jE ks x y).isSome=true):=rfl
theorem qrp{p:Nat}{n:Option Nat}{c:List AV}:valP (.fld p n) [.agg c]=cut c p n:=rfl
theorem quQ{p:Nat}{n:Option Nat}{c:List AV}:okP (.fld p n) [.agg c]=ji c p n:=rfl
theorem qtL{p:Nat}{c:List AV}:ji c p none=(p<c.length):=rfl
theorem qtM{p n:Nat}{c:List AV}:ji c p (some n)=(p+n≤c.length):=rfl
theorem qro{i:Nat}{c:List AV}:valP (.ext i) [.tup c]=(c[i]?).getD .undef:=rfl
theorem quP{i:Nat}{c:List AV}:okP (.ext i) [.tup c]=(i<c.length):=rfl
theorem qjv{z:List AV}{ps:List (Nat×Nat)}{vs:List AV}:valP (.build z ps) vs= .agg (qas z ps vs):=by cases vs<;>rfl
theorem qmt{z:List AV}{ps:List (Nat×Nat)}{vs:List AV}:okP (.build z ps) vs=qad z.length ps vs:=by cases vs<;>rfl
theorem qih{n:Nat}:qad n [] []=True:=rfl
theorem qf2{m p n:Nat}{ps:List (Nat×Nat)}{v:AV}{vs:List AV}:qad m ((p,n)::ps) (v::vs)=(v.solid=true∧v.cells.length=n∧p+n≤m∧qad m ps vs):=rfl
theorem qln{z:List AV}{ps:List (Nat×Nat)}:qas z ps []=z:=by cases ps<;>rfl
theorem qig{z:List AV}{p n:Nat}{ps:List (Nat×Nat)}{v:AV}{vs:List AV}:qas z ((p,n)::ps) (v::vs)=qas (z.take p++v.cells++z.drop (p+n)) ps vs:=rfl
theorem qob{f:Fn}{n:Nat}{vs:List AV}:valP (.mkfn f n) vs= .fn f (vs.take n) (vs.drop n):=by cases vs<;>rfl
theorem qqk{f:Fn}{n:Nat}{vs:List AV}:okP (.mkfn f n) vs=(n≤vs.length):=by cases vs<;>rfl
theorem qoc{s:List UInt8}{k:IntKind}{i:Int}:valP .sidx [.str s,.int k i]= .int .u8 ((s[i.toNat]?).getD 0).toNat:=rfl
theorem qn3{cs:List AV}{k:IntKind}{i:Int}{n1 n2:Nat}{n3:Option Nat}:valP (.aidx n1 n2 n3) [.agg cs,.int k i]=cut cs (i.toNat*n2) n3:=rfl
theorem qqf{cs:List AV}{k:IntKind}{i:Int}{n1 n2:Nat}{n3:Option Nat}:okP (.aidx n1 n2 n3) [.agg cs,.int k i]=((0≤i∧i<n1)∧ji cs (i.toNat*n2) n3):=rfl
theorem qql{s:List UInt8}{k:IntKind}{i:Int}:okP .sidx [.str s,.int k i]=(0≤i∧i<s.length):=rfl
theorem qjx{s:List UInt8}{k m:IntKind}{a c:Int}:valP (.sslc true true) [.str s,.int k a,.int m c]= .str ((s.drop (a:Int).toNat).take ((c:Int).toNat-(a:Int).toNat)):=by simp[valP,loB,hiB]
theorem qmv{s:List UInt8}{k m:IntKind}{a c:Int}:okP (.sslc true true) [.str s,.int k a,.int m c]=(0≤(a:Int)∧(a:Int)≤c∧c≤(s.length:Int)):=by simp[okP,loB,hiB,qbT]
theorem qju{g:List AObj}{z n:Nat}{f:Nat→List AV}{k m:IntKind}{a c:Int}:valL g (.slc z true true) [.sl n f,.int k a,.int m c]= .sl ((c:Int).toNat-(a:Int).toNat) (fun i=>f ((a:Int).toNat+i)):=by simp[valL,loB,hiB]
theorem qms{g:List AObj}{z n:Nat}{f:Nat→List AV}{k m:IntKind}{a c:Int}:okL g (.slc z true true) [.sl n f,.int k a,.int m c]=((0≤(a:Int)∧(a:Int)≤c∧c≤(n:Int))∧(0<n→(f 0).length=z)):=by simp[okL,loB,hiB,qbT,and_assoc]
theorem qof{s:List UInt8}{k:IntKind}{a:Int}:valP (.sslc true false) [.str s,.int k a]= .str ((s.drop (a:Int).toNat).take (((s.length:Int):Int).toNat-(a:Int).toNat)):=by simp[valP,loB,hiB]
theorem qqo{s:List UInt8}{k:IntKind}{a:Int}:okP (.sslc true false) [.str s,.int k a]=(0≤(a:Int)∧(a:Int)≤(s.length:Int)∧(s.length:Int)≤(s.length:Int)):=by simp[okP,loB,hiB,qbT]
theorem qn2{g:List AObj}{z n:Nat}{f:Nat→List AV}{k:IntKind}{a:Int}:valL g (.slc z true false) [.sl n f,.int k a]= .sl (((n:Int):Int).toNat-(a:Int).toNat) (fun i=>f ((a:Int).toNat+i)):=by simp[valL,loB,hiB]
theorem qqe{g:List AObj}{z n:Nat}{f:Nat→List AV}{k:IntKind}{a:Int}:okL g (.slc z true false) [.sl n f,.int k a]=((0≤(a:Int)∧(a:Int)≤(n:Int)∧(n:Int)≤(n:Int))∧(0<n→(f 0).length=z)):=by simp[okL,loB,hiB,qbT,and_assoc]
theorem qn0{g:List AObj}{z w v y p n:Nat}{k:IntKind}{a:Int}:valL g (.slc z true false) [.osl w v y p n,.int k a]= .osl w v y (p+(a:Int).toNat*y) (((n:Int):Int).toNat-(a:Int).toNat):=by simp[valL,loB,hiB]
theorem qqc{g:List AObj}{z w v y p n:Nat}{k:IntKind}{a:Int}:okL g (.slc z true false) [.osl w v y p n,.int k a]=((0≤(a:Int)∧(a:Int)≤(n:Int)∧(n:Int)≤(n:Int))∧y=z∧zR g w v=true∧((a:Int)=0∨(a:Int)<n)):=by simp[okL,loB,hiB,qbT,and_assoc]
theorem qoe{s:List UInt8}{k:IntKind}{c:Int}:valP (.sslc false true) [.str s,.int k c]= .str ((s.drop (0:Int).toNat).take ((c:Int).toNat-(0:Int).toNat)):=by simp[valP,loB,hiB]
theorem qqn{s:List UInt8}{k:IntKind}{c:Int}:okP (.sslc false true) [.str s,.int k c]=(0≤(0:Int)∧(0:Int)≤c∧c≤(s.length:Int)):=by simp[okP,loB,hiB,qbT]
theorem qn1{g:List AObj}{z n:Nat}{f:Nat→List AV}{k:IntKind}{c:Int}:valL g (.slc z false true) [.sl n f,.int k c]= .sl ((c:Int).toNat-(0:Int).toNat) (fun i=>f ((0:Int).toNat+i)):=by simp[valL,loB,hiB]
theorem qqd{g:List AObj}{z n:Nat}{f:Nat→List AV}{k:IntKind}{c:Int}:okL g (.slc z false true) [.sl n f,.int k c]=((0≤(0:Int)∧(0:Int)≤c∧c≤(n:Int))∧(0<n→(f 0).length=z)):=by simp[okL,loB,hiB,qbT,and_assoc]
theorem qnZ{g:List AObj}{z w v y p n:Nat}{k:IntKind}{c:Int}:valL g (.slc z false true) [.osl w v y p n,.int k c]= .osl w v y (p+(0:Int).toNat*y) ((c:Int).toNat-(0:Int).toNat):=by simp[valL,loB,hiB]
theorem qqb{g:List AObj}{z w v y p n:Nat}{k:IntKind}{c:Int}:okL g (.slc z false true) [.osl w v y p n,.int k c]=((0≤(0:Int)∧(0:Int)≤c∧c≤(n:Int))∧y=z∧zR g w v=true∧((0:Int)=0∨(0:Int)<n)):=by simp[okL,loB,hiB,qbT,and_assoc]
theorem qn7{k l:IntKind}{a c:Int}:valP (.mm true) [.int k a,.int l c]= .int k (max a c):=rfl
theorem qn9{k l:IntKind}{a c:Int}:valP (.mm false) [.int k a,.int l c]= .int k (min a c):=rfl
theorem qn8{k l m:IntKind}{a c e:Int}:valP (.mm true) [.int k a,.int l c,.int m e]= .int k (max (max a c) e):=rfl
theorem qoa{k l m:IntKind}{a c e:Int}:valP (.mm false) [.int k a,.int l c,.int m e]= .int k (min (min a c) e):=rfl
theorem quR{x:Bool}{k l:IntKind}{a c:Int}:okP (.mm x) [.int k a,.int l c]=True:=by simp[okP,qbT]
theorem qjs{g:List AObj}{n:Nat}{f:Nat→List AV}:valL g .len [.sl n f]= .int .i64 n:=rfl
theorem qmr{g:List AObj}{n:Nat}{f:Nat→List AV}:okL g .len [.sl n f]=True:=rfl
theorem qjr{g:List AObj}:valL g .len [.nl]= .int .i64 0:=rfl
theorem qmq{g:List AObj}:okL g .len [.nl]=True:=rfl
theorem qod{s:List UInt8}:valP .slen [.str s]= .int .i64 s.length:=rfl
theorem qqm{s:List UInt8}:okP .slen [.str s]=True:=rfl
theorem qgL{g:List AObj}{k v z p n:Nat}:valL g .len [.osl k v z p n]= .int .i64 n:=rfl
theorem qiF{g:List AObj}{k v z p n:Nat}:okL g .len [.osl k v z p n]=(zR g k v=true):=rfl
theorem qjq{g:List AObj}{z n:Nat}{f:Nat→List AV}{k:IntKind}{i:Int}:valL g (.idxA z) [.sl n f,.int k i]= .ip (f i.toNat):=rfl
theorem qmp{g:List AObj}{z n:Nat}{f:Nat→List AV}{k:IntKind}{i:Int}:okL g (.idxA z) [.sl n f,.int k i]=((0≤i∧i<n)∧(f i.toNat).length=z):=rfl
theorem qgK{g:List AObj}{z q v y p n:Nat}{k:IntKind}{i:Int}:valL g (.idxA z) [.osl q v y p n,.int k i]= .op q v (p+i.toNat*y):=rfl
theorem qiE{g:List AObj}{z q v y p n:Nat}{k:IntKind}{i:Int}:okL g (.idxA z) [.osl q v y p n,.int k i]=((0≤i∧i<n)∧y=z∧(cellsOf g q v).isSome=true):=rfl
theorem qjm{g:List AObj}{m z:Nat}{c:List AV}{k:IntKind}{i:Int}:valL g (.idxArr m z) [.ip c,.int k i]= .ip ((c.drop (i.toNat*z)).take z):=rfl
theorem qmk{g:List AObj}{m z:Nat}{c:List AV}{k:IntKind}{i:Int}:okL g (.idxArr m z) [.ip c,.int k i]=((0≤i∧i<m)∧c.length=m*z):=rfl
theorem qjn{g:List AObj}{m z q v p:Nat}{k:IntKind}{i:Int}:valL g (.idxArr m z) [.op q v p,.int k i]= .op q v (p+i.toNat*z):=rfl
theorem qml{g:List AObj}{m z q v p:Nat}{k:IntKind}{i:Int}:okL g (.idxArr m z) [.op q v p,.int k i]=((0≤i∧i<m)∧(cellsOf g q v).isSome=true):=rfl
theorem qjo{g:List AObj}{p:Nat}{c:List AV}:valL g (.fldA p) [.ip c]= .ip (c.drop p):=rfl
theorem qmn{g:List AObj}{p:Nat}{c:List AV}:okL g (.fldA p) [.ip c]=(p<c.length):=rfl
theorem qjp{g:List AObj}{p q v o:Nat}:valL g (.fldA p) [.op q v o]= .op q v (o+p):=rfl
theorem qmo{g:List AObj}{p q v o:Nat}:okL g (.fldA p) [.op q v o]=((cellsOf g q v).isSome=true):=rfl
theorem qnU{g:List AObj}{n:Option Nat}{c:List AV}:valL g (.load n) [.ip c]=cut c 0 n:=rfl
theorem qp6{g:List AObj}{n:Option Nat}{c:List AV}:okL g (.load n) [.ip c]=ji c 0 n:=rfl
theorem qnV{g:List AObj}{n:Option Nat}{q v p:Nat}:valL g (.load n) [.op q v p]=cut ((cellsOf g q v).getD []) p n:=rfl
theorem qp7{g:List AObj}{n:Option Nat}{q v p:Nat}:okL g (.load n) [.op q v p]=((cellsOf g q v).isSome=true∧ji ((cellsOf g q v).getD []) p n):=rfl
theorem qnX{g:List AObj}{c:List AV}:valL g .nilchk [.ip c]= .ip c:=rfl
theorem qp9{g:List AObj}{c:List AV}:okL g .nilchk [.ip c]=True:=rfl
theorem qnY{g:List AObj}{q v p:Nat}:valL g .nilchk [.op q v p]= .op q v p:=rfl
theorem qqa{g:List AObj}{q v p:Nat}:okL g .nilchk [.op q v p]=((cellsOf g q v).isSome=true):=rfl
theorem qnW{g:List AObj}{f:Fn}{a c:List AV}:valL g .nilchk [.fn f a c]= .fn f a c:=rfl
theorem qp8{g:List AObj}{f:Nat}{a c:List AV}:okL g .nilchk [.fn (.func f) a c]=True:=rfl
theorem qpc{c:List AV}{p:Nat}:cut c p none=(c[p]?).getD .undef:=rfl
theorem qpd{c:List AV}{p n:Nat}:cut c p (some n)= .agg ((c.drop p).take n):=rfl
theorem qpO{b w:Bool}:qM (.bool b) w=(b==w):=rfl
theorem qlT{g b w:Bool}:qM (.gd g (.bool b)) w=(g&&(b==w)):=rfl
theorem qlU{b:Bool}:zc (.bool b)=true:=rfl
theorem qis{g b:Bool}:zc (.gd g (.bool b))=true:=rfl
theorem qqq{c:Bool}{x y:AV}:qaw (.bool c) x y=((c=true→x.flag=true)∧(c=false→y.flag=true)):=rfl
theorem qmE{g c:Bool}{x y:AV}:qaw (.gd g (.bool c)) x y=(g=true∧(c=true→x.flag=true)∧(c=false→y.flag=true)):=rfl
theorem qmF{c p q:Bool}:jK (.bool c) (.bool p) (.bool q)= .bool ((c&&p)||(!c&&q)):=rfl
theorem qmL{c p q gc:Bool}:jK (.gd gc (.bool c)) (.bool p) (.bool q)= .bool ((c&&p)||(!c&&q)):=rfl
theorem qmG{c p q gq:Bool}:jK (.bool c) (.bool p) (.gd gq (.bool q))= .bool ((c&&p)||(!c&&q)):=rfl
theorem qmM{c p q gq gc:Bool}:jK (.gd gc (.bool c)) (.bool p) (.gd gq (.bool q))= .bool ((c&&p)||(!c&&q)):=rfl
theorem qmH{c p q gp:Bool}:jK (.bool c) (.gd gp (.bool p)) (.bool q)= .bool ((c&&p)||(!c&&q)):=rfl
theorem qmN{c p q gp gc:Bool}:jK (.gd gc (.bool c)) (.gd gp (.bool p)) (.bool q)= .bool ((c&&p)||(!c&&q)):=rfl
theorem qmI{c p q gp gq:Bool}:jK (.bool c) (.gd gp (.bool p)) (.gd gq (.bool q))= .bool ((c&&p)||(!c&&q)):=rfl
theorem qmO{c p q gp gq gc:Bool}:jK (.gd gc (.bool c)) (.gd gp (.bool p)) (.gd gq (.bool q))= .bool ((c&&p)||(!c&&q)):=rfl
theorem qx4{P:Program}{b:Nat}{Q:Ex→Nx}{t:List AV}{h:List AObj}:qY P b .skip Q t h=Q .normal t h:=(rfl)
theorem qBZ{P:Program}{b:Nat}{Q:Ex→Nx}{t:List AV}{h:List AObj}{l:List RO}:qY P b (.ops l) Q t h=qF P b l (Q .normal) t h:=(rfl)
theorem qB1{P:Program}{b:Nat}{Q:Ex→Nx}{t:List AV}{h:List AObj}{x y:C}:qY P b (.seq x y) Q t h=qY P b x (Ex.andThen (qY P b y Q) Q) t h:=(rfl)
theorem qx2{P:Program}{b:Nat}{Q:Ex→Nx}{t:List AV}{h:List AObj}{c:X}{x y:C}:qY P b (.cond c x y) Q t h=qfX (ev t c) (qY P b x Q) (qY P b y Q) t h:=(rfl)
theorem qty{P:Program}{b:Nat}{Q:Ex→Nx}{t:List AV}{h:List AObj}{i:Nat}{x:C}:qY P b (.block i x) Q t h=qY P b x (Ex.inBlock i Q) t h:=(rfl)
theorem qx3{P:Program}{b:Nat}{Q:Ex→Nx}{t:List AV}{h:List AObj}{i:Nat}:qY P b (.exit i) Q t h=Q (.exit i) t h:=(rfl)
theorem qB0{P:Program}{b:Nat}{Q:Ex→Nx}{t:List AV}{h:List AObj}:qY P b .ret Q t h=Q .ret t h:=(rfl)
theorem qDV{K:Nx}{Q:Ex→Nx}{t:List AV}{h:List AObj}:Ex.andThen K Q .normal t h=K t h:=(rfl)
theorem qDU{K:Nx}{Q:Ex→Nx}{t:List AV}{h:List AObj}{i:Nat}:Ex.andThen K Q (.exit i) t h=Q (.exit i) t h:=(rfl)
theorem qDW{K:Nx}{Q:Ex→Nx}{t:List AV}{h:List AObj}:Ex.andThen K Q .ret t h=Q .ret t h:=(rfl)
theorem qEy{i:Nat}{Q:Ex→Nx}{t:List AV}{h:List AObj}:Ex.inBlock i Q .normal t h=Q .normal t h:=(rfl)
theorem qEz{i:Nat}{Q:Ex→Nx}{t:List AV}{h:List AObj}:Ex.inBlock i Q .ret t h=Q .ret t h:=(rfl)
theorem qEx{i j:Nat}{Q:Ex→Nx}{t:List AV}{h:List AObj}:Ex.inBlock i Q (.exit j) t h=if j=i then Q .normal t h else Q (.exit j) t h:=(rfl)
end AF
end
section
namespace AF
open Go
attribute [go_sem] qA6 qn3 qqf qz2 qAM qz3 qAN qz4 qAO qz5 qAP qz6 qAQ qz7 qAR qz8 qAS qz9 qAT qut qvm qpN qqN qEm qEl qjb qlw qiV qh2 qnI qpu qnq qkU qnM qpy qnu qkY qre qui qqZ qo1 qnK qpw qns qkW qnG qps qno qnN qpz qkZ qrb quf qqW qoY qrd quh qqY qo0 qje qlz qiY qh5 qrc qug qqX qoZ qq9 qud qqV qoX qnO qpA qnv qk0 qgA qil qgp qfS qnH qpt qnp qkT qgB qim qgq qfT qgE qip qkS qra que qFa qDb qC3 qBs qwc qFb qDc qA9 qvN qC5 qvL qBf qwh qBj qwk qBi qwj qBk qwl qE9 qC6 qBt qBc qwf qrt qBa qwe qBe qwg qru qC9 qBu qBh qwi qBg qvK qC4 qvQ qvP qA7 qC2 qA8 qwd qvM qC7 qt9 qpm qjh qgF qlC qiq qj9 qjN qkm qj0 qkg qjU qki qjW qkj qjX qkk qjY qkl qjZ qkb qjP qkh qjV qkf qjT qke qjS qkd qjR qkc qjQ qka qjO qoJ qoI qkn qj1 qeD qeC qko qj2 qkp qj3 qku qj8 qkt qj7 qks qj6 qkr qj5 qkq qj4 qn4 qqg qrr quT qrq quS qn5 qqh qdd qd4 qcY qc5 qb9 qcU qbk qfc qep qh7 qja qlv qiU qh1 qmi qiz qiA quK quJ quI qp3 qrn quO qrp quQ qtL qtM qro quP qjv qmt qih qf2 qln qig qob qqk qoc qql qjx qmv qju qms qof qqo qn2 qqe qn0 qqc qoe qqn qn1 qqd qnZ qqb qn7 qn9 qn8 qoa quR qjs qmr qjr qmq qod qqm qgL qiF qjq qmp qgK qiE qjm qmk qjn qml qjo qmn qjp qmo qnU qp6 qnV qp7 qnX qp9 qnY qqa qnW qp8 qpc qpd qpO qlT qlU qis qqq qmE qmF qmL qmG qmM qmH qmN qmI qmO qx4 qBZ qB1 qx2 qty qx3 qB0 qDV qDU qDW qEy qEz qEx
attribute [go_sem] and_true true_and List.drop_zero List.drop_succ_cons List.getElem?_cons_zero List.getElem?_cons_succ Option.getD_some List.length_cons List.length_nil Int.toNat_natCast beq_true imp_self and_self implies_true Bool.and_true Bool.and_false Bool.or_false decide_eq_true_eq Bool.and_eq_true
theorem qne(t:List AV)(h:List AObj):jY t h []=True:=rfl
theorem qnf(n:Nat)(l:List RV)(t:List AV)(h:List AObj):jY t h (.tmp n::l)=jY t h l:=by simp[jY,RV.ok]
theorem qiP(t:List AV)(h:List AObj):zM t h []= []:=rfl
theorem qiQ(n:Nat)(l:List RV)(t:List AV)(h:List AObj):zM t h (.tmp n::l)=zq n t::zM t h l:=rfl
theorem qqI(v:AV):qgh [v]=v:=rfl
theorem qqJ(v u:AV)(l:List AV):qgh (v::u::l)= .tup (v::u::l):=rfl
theorem qh8(c:Bool)(A B:Nx)(t:List AV)(h:List AObj):qfX (.bool c) A B t h=((c=true→A t h)∧(c=false→B t h)):=rfl
theorem qq{n:Int}(h0: -9223372036854775808≤n)(h1:n≤9223372036854775807):IntKind.i64.wrap n=n:=by
 have e1:(2:Int)^IntKind.bits IntKind.i64=18446744073709551616:=rfl;have e2:(2:Int)^(IntKind.bits IntKind.i64-1)=9223372036854775808:=rfl;have e3:IntKind.signed IntKind.i64=true:=rfl;unfold IntKind.wrap;rw[e1,e2,e3];simp only[Bool.true_and,decide_eq_true_eq];split<;>omega
theorem qlL{rs:List RV}{h0:List AObj}{K:AV→List AObj→Prop}{t:List AV}{hh tl:List AObj}{r:AV}(e:hh=h0++tl)(hok:jY t hh rs)(hK:K r h0)(hv:VLe (frz (fun k=>decide (h0.length≤k)) hh 8 (qgh (zM t hh rs))) r):
  fnQ rs h0 K .ret t hh:=by subst e;exact qpI hok hK hv
theorem qn{P:Program}{b:Nat}{x:C}{Q:Ex→Nx}{ι:Type}{t:List AV}{h:List AObj}(T:ι→List AV)(H:ι→List AObj)(inv:ι→Prop)(m:ι→Nat)(i0:ι)(h0:inv i0)(hw:Wk t h (T i0) (H i0))
  (round: ∀i,inv i→ ∀K:Nx,(∀t' h' j,inv j→m j<m i→Wk t' h' (T j) (H j)→K t' h')→qY P b x (Ex.andThen K Q) (T i) (H i)):qY P b (.loop x) Q t h:=by
 refine⟨fun n t h=> ∃i,inv i∧m i=n∧t=T i∧h=H i,⟨m i0,T i0,H i0,hw,i0,h0,rfl,rfl,rfl⟩,?_⟩;rintro n t' h' ⟨i,hi,rfl,rfl,rfl⟩;exact round i hi _ (fun t'' h'' j hj hlt hw=>⟨m j,T j,H j,hlt,hw,j,hj,rfl,rfl,rfl⟩)
def qI(n:Nat)(l:List (Nat×AV)):List AV:=l.foldl (fun t p=>zQ p.1 t p.2) (List.replicate n .undef)
theorem qaX.nil:qaX [] []:=trivial
theorem qa(a:AV):VLe a .undef=True:=by simp[VLe.undef]
theorem qi(a:AV):VLe a a=True:=by simp[VLe.refl]
theorem qh{k:IntKind}{a b:Int}(h:a=b):VLe (.int k a) (.int k b):=h▸VLe.refl _
theorem qj:qaX [] []=True:=rfl
theorem qd{a b:AV}{l m:List AV}:qaX (a::l) (b::m)=(VLe a b∧qaX l m):=rfl
theorem qe{rs:List RV}{h:List AObj}{t:List AV}{r:AV}(hok:jY t h rs)(hv:VLe (frz (fun k=>decide (h.length≤k)) h 8 (qgh (zM t h rs))) r):fnQ rs h (fun r1 h1=>r1=r∧h1=h) .ret t h:=
 qlL (tl:= []) (by simp) hok ⟨rfl,rfl⟩ hv
theorem qb{rs:List RV}{h tl:List AObj}{t:List AV}{r:AV}(hok:jY t (h++tl) rs)(hv:VLe (frz (fun k=>decide (h.length≤k)) (h++tl) 8 (qgh (zM t (h++tl) rs))) r):fnQ rs h (fun r1 h1=>r1=r∧h1=h) .ret t (h++tl):=
 qlL rfl hok ⟨rfl,rfl⟩ hv
section
variable {fz : Nat → Bool} {h : List AObj} {n : Nat}
theorem frz_int{k:IntKind}{a:Int}:frz fz h (n+1) (.int k a)= .int k a:=rfl
theorem frz_bool{a:Bool}:frz fz h (n+1) (.bool a)= .bool a:=rfl
theorem frz_str{a:List UInt8}:frz fz h (n+1) (.str a)= .str a:=rfl
theorem frz_sl{m:Nat}{f:Nat→List AV}:frz fz h (n+1) (.sl m f)= .sl m f:=rfl
theorem frz_nl:frz fz h (n+1) .nl= .nl:=rfl
theorem frz_nilp:frz fz h (n+1) .nilp= .nilp:=rfl
theorem frz_nilfn:frz fz h (n+1) .nilfn= .nilfn:=rfl
theorem frz_ifc:frz fz h (n+1) .ifc= .ifc:=rfl
theorem frz_nilif:frz fz h (n+1) .nilif= .nilif:=rfl
theorem frz_undef:frz fz h (n+1) .undef= .undef:=rfl
theorem frz_ip{cs:List AV}:frz fz h (n+1) (.ip cs)= .ip cs:=rfl
theorem frz_agg{cs:List AV}:frz fz h (n+1) (.agg cs)= .agg (cs.map (frz fz h n)):=rfl
theorem frz_tup{cs:List AV}:frz fz h (n+1) (.tup cs)= .tup (cs.map (frz fz h n)):=rfl
theorem frz_fn{f:Fn}{a b:List AV}:frz fz h (n+1) (.fn f a b)= .fn f (a.map (frz fz h n)) (b.map (frz fz h n)):=rfl
theorem frz_gd{g:Bool}{v:AV}:frz fz h (n+1) (.gd g v)= .gd g (frz fz h n v):=rfl
end
attribute [go_sem] frz_int frz_bool frz_str frz_sl frz_nl frz_nilp frz_nilfn frz_ifc frz_nilif frz_undef frz_ip frz_agg frz_tup frz_fn frz_gd if_true if_false List.map_cons List.map_nil
attribute [go_sem] qh8 qne qnf qiP qiQ qqI qqJ
end AF
end
section
namespace AF
open Go
section
variable {h : List AObj} {l : List AObj} {n k v : Nat} {o : AObj} {ty : TypeId} {cs : List AV}
theorem getO_app0:qA h.length (h++l)=l[0]? :=by unfold qA;rw[List.getElem?_append_right (Nat.le_refl _),Nat.sub_self]
theorem getO_app:qA (h.length+n) (h++l)=l[n]? :=by unfold qA;rw[List.getElem?_append_right (by omega),Nat.add_sub_cancel_left]
theorem setO_app0:setO h.length (h++l) o=h++l.set 0 o:=by unfold setO;rw[List.set_append_right _ _ (Nat.le_refl _),Nat.sub_self]
theorem setO_app:setO (h.length+n) (h++l) o=h++l.set n o:=by unfold setO;rw[List.set_append_right _ _ (by omega),Nat.add_sub_cancel_left]
theorem verOf_mem:qr (some (.mem v ty cs))=v:=rfl
theorem verOf_emp:qr (some (.emp v))=v:=rfl
theorem tyOf_mem:qsC (some (.mem v ty cs))=ty:=rfl
theorem site_app:qC (h++l) (h.length+n)=qC l n:=by unfold qC;rw[getO_app];rfl
theorem site_app0:qC (h++l) h.length=qC l 0:=by unfold qC;rw[getO_app0];rfl
theorem site_0_mem{v:Nat}:qC (.mem v ty cs::l) 0=true:=rfl
theorem site_0_emp{v:Nat}:qC (.emp v::l) 0=true:=rfl
theorem site_s:qC (o::l) (n+1)=qC l n:=rfl
theorem cellsOf_app:cellsOf (h++l) (h.length+n) v=cellsOf l n v:=by unfold cellsOf;rw[getO_app];rfl
theorem cellsOf_app0:cellsOf (h++l) h.length v=cellsOf l 0 v:=by unfold cellsOf;rw[getO_app0];rfl
theorem cellsOf_0{w:Nat}:cellsOf (.mem w ty cs::l) 0 v=if w=v then some cs else none:=rfl
theorem cellsOf_s:cellsOf (o::l) (n+1) v=cellsOf l n v:=rfl
theorem liveS_app:zR (h++l) (h.length+n) v=zR l n v:=by unfold zR;rw[getO_app];rfl
theorem liveS_0_mem{w:Nat}:zR (.mem w ty cs::l) 0 v=(w==v):=rfl
theorem liveS_0_emp{w:Nat}:zR (.emp w::l) 0 v=(w==v):=rfl
theorem liveS_s:zR (o::l) (n+1) v=zR l n v:=rfl
theorem tyOk_mem{t:TypeId}:qrh (some (.mem v t cs)) ty=(t==ty):=rfl
theorem tyOk_emp:qrh (some (.emp v)) ty=true:=rfl
theorem b_add0{b:Nat}:b+0=b:=rfl
theorem appO_mem{t:TypeId}{ds:List AV}{c m:Nat}:qjz (some (.mem k t ds)) ty v c m cs= .mem (v+1) ty (ds.take c++cs):=rfl
theorem appO_emp{c m:Nat}:qjz (some (.emp k)) ty v c m cs=if m=0 then .emp (v+1) else .mem (v+1) ty cs:=rfl
end
section
variable {b : Nat} {h : List AObj} {t : List AV} {d : Option Nat} {nx : List AV → List AObj → Prop}
theorem qyj{j sz:Nat}{ty:TypeId}:jq b h (.nilo j sz ty) [] t d nx=(qC h (b+j)=true∧nx (qV t d (.osl (b+j) (qr (qA (b+j) h)+1) sz 0 0)) (setO (b+j) h (.emp (qr (qA (b+j) h)+1)))):=(rfl)
theorem qtX{j:Nat}{ty:TypeId}{z:List AV}:jq b h (.alloc j ty z) [] t d nx=(qC h (b+j)=true∧nx (qV t d (.op (b+j) (qr (qA (b+j) h)+1) 0)) (setO (b+j) h (.mem (qr (qA (b+j) h)+1) ty z))):=(rfl)
theorem qB7{j:Nat}{ty:TypeId}{v:AV}:jq b h (.box j ty) [v] t d nx=((qC h (b+j)=true∧v.solid=true)∧nx (qV t d (.op (b+j) (qr (qA (b+j) h)+1) 0)) (setO (b+j) h (.mem (qr (qA (b+j) h)+1) ty v.cells))):=(rfl)
theorem qtZ{n k ver off:Nat}{v:AV}:jq b h (.store n) [.op k ver off,v] t d nx=(((cellsOf h k ver).isSome=true∧v.solid=true∧v.cells.length=n∧off+n≤((cellsOf h k ver).getD []).length)∧
  nx (qV t d (.tup [])) (setO k h (.mem ver (qsC (qA k h)) (((cellsOf h k ver).getD []).take off++v.cells++((cellsOf h k ver).getD []).drop (off+n))))):=(rfl)
theorem qtY{j sz:Nat}{ty:TypeId}{z:List AV}{bytes:Nat}{l c:Int}:jq b h (.mkslc j sz ty z bytes) [.int .i64 l,.int .i64 c] t d nx=((qC h (b+j)=true∧z.length=sz∧0≤l∧l=c∧c*(bytes:Int)≤140737488355328∧c≤140737488355328)∧
   nx (qV t d (.osl (b+j) (qr (qA (b+j) h)+1) sz 0 l.toNat)) (setO (b+j) h (.mem (qr (qA (b+j) h)+1) ty (qS z l.toNat)))):=(rfl)
theorem qyi{j sz n:Nat}{ty:TypeId}{z:List AV}{ps:List (Nat×Nat)}{vs:List AV}:jq b h (.bslc j sz n ty z ps) vs t d nx=((qC h (b+j)=true∧z.length=sz∧qad (n*sz) ps vs∧n≤140737488355328)∧
   nx (qV t d (.osl (b+j) (qr (qA (b+j) h)+1) sz 0 n)) (setO (b+j) h (.mem (qr (qA (b+j) h)+1) ty (qas (qS z n) ps vs)))):=by
 cases vs<;>rfl
theorem qB6{j sz:Nat}{ty:TypeId}{bytes k ver sz' off m:Nat}{y:AV}:jq b h (.app j sz ty bytes) [.osl k ver sz' off m,y] t d nx=(((qt h y).isSome=true∧zR h k ver=true∧qrh (qA k h) ty=true∧m*sz≤((cellsOf h k ver).getD []).length∧qcr (.osl k ver sz' off m) y=true∧sz'=sz∧off=0∧
    ((qt h y).getD (0,[])).2.length=((qt h y).getD (0,[])).1*sz∧
    ((m+((qt h y).getD (0,[])).1:Nat):Int)*bytes≤140737488355328∧((m+((qt h y).getD (0,[])).1:Nat):Int)≤140737488355328)∧
   nx (qV t d (.osl k (ver+1) sz 0 (m+((qt h y).getD (0,[])).1)))
    (setO k h (qjz (qA k h) ty ver (m*sz) ((qt h y).getD (0,[])).1 ((qt h y).getD (0,[])).2))):=(rfl)
theorem qmV{n:Nat}{v:AV}:qV t (some n) v=zQ n t v:=rfl
theorem qmU{v:AV}:qV t none v=t:=rfl
theorem qej:qt h .nl=some (0,[]):=rfl
theorem qek{n:Nat}{f:Nat→List AV}:qt h (.sl n f)=some (n,(List.range n).flatMap f):=rfl
end
attribute [go_sem] getO_app0 getO_app setO_app0 setO_app verOf_mem verOf_emp tyOf_mem site_app site_app0 site_0_mem site_0_emp site_s cellsOf_app cellsOf_app0 cellsOf_0 cellsOf_s liveS_app liveS_0_mem liveS_0_emp liveS_s tyOk_mem tyOk_emp b_add0 appO_mem appO_emp
attribute [go_sem] qyj qtX qB7 qtZ qtY qyi qB6 qmV qmU qej qek
attribute [go_sem] List.set_cons_zero List.set_cons_succ Option.isSome_some List.take_zero List.take_succ_cons List.take_nil List.drop_nil List.nil_append List.cons_append List.append_nil Nat.reduceAdd Nat.reduceMul Nat.reduceSub Nat.reduceLeDiff Nat.reduceEqDiff Nat.zero_add
end AF
end
section
namespace AF
open Go
theorem qD{P:Program}{f:Nat}{p:Bool}{vs:List AV}{d:Option Nat}{nx:Nx}{t:List AV}{h:List AObj}{r:AV}(hc:ACalls P f (strips vs) h r h)(hf:flags vs)(hn:nx (qV t d r) h):qh0 P f p vs d nx t h:=
 ⟨hf,r,h,hc,fun _=>rfl,hn⟩
theorem qa4{P:Program}{f:Nat}{vs:List AV}{d:Option Nat}{nx:Nx}{t:List AV}{h h':List AObj}{r:AV}(hc:ACalls P f (strips vs) h r h')(hf:flags vs)(hn:nx (qV t d r) h'):qh0 P f false vs d nx t h:=
 ⟨hf,r,h',hc,by simp,hn⟩
theorem qK{P:Program}{f:Nat}{p g:Bool}{vs:List AV}{d:Option Nat}{nx:Nx}{t:List AV}{h:List AObj}{r:AV}(hc:g=true→flags vs∧ACalls P f (strips vs) h r h)(hn:nx (qV t d (.gd g r)) h):qkL P f p g vs d nx t h:=
 ⟨r,h,fun e=>⟨(hc e).1,(hc e).2,fun _=>rfl⟩,fun _=>rfl,hn⟩
theorem qCM{t:List AV}{h:List AObj}:jY t h []:=trivial
theorem qCN{t:List AV}{h:List AObj}{n:Nat}{l:List RV}(hl:jY t h l):jY t h (.tmp n::l):=⟨trivial,hl⟩
theorem quk:flags []:=trivial
theorem quj{a:AV}{l:List AV}(h:a.flag=true)(t:flags l):flags (a::l):=⟨h,t⟩
theorem qm{P:Program}{f:Nat}{p:Bool}{vs:List AV}{d:Option Nat}{nx:Nx}{t:List AV}{h:List AObj}(r:AV)(hn:nx (qV t d (.gd false r)) h):qkL P f p false vs d nx t h:=by
 refine⟨r,h,?_,fun _=>rfl,hn⟩;intro e;cases e
theorem qg{a b:Bool}(h:a=b):VLe (.bool a) (.bool b):=h▸VLe.refl _
theorem zV{a b:List UInt8}(h:a=b):VLe (.str a) (.str b):=h▸VLe.refl _
theorem qrx{n m:Nat}{f g:Nat→List AV}(e:n=m)(h: ∀i,i<m→f i=g i):VLe (.sl n f) (.sl m g):=by
 subst e;intro w σ x hx;have h1:=zx rfl hx;cases h1 with
 |nilsl=>exact .imm .nilsl
 |sl sz b off cap vals hn hm hb hlt hsz hc h1 hv=>
  refine .imm (.sl sz b off cap vals hn hm hb hlt (fun i hi=> ?_) hc h1 (fun i j c hi hj=> ?_))
  ·rw[←h i hi];exact hsz i hi
  ·rw[←h i hi]at hj;exact hv i j c hi hj
theorem jf{f:Nat→List AV}:VLe .nl (.sl 0 f):=by
 intro w σ x hx;have h1:=zx rfl hx;cases h1 with
 |nl=>exact .imm .nilsl
theorem qL{l m:List AV}(h:qaX l m):VLe (.tup l) (.tup m):=by
 intro w σ x hx;obtain⟨vs,rfl,hl,hv⟩:=qfA hx;refine .tup (by rw[hl,h.length]) (fun i c x hc hx=> ?_);obtain⟨a,ha,hle⟩:=h.get i c hc;exact hle w σ x (hv i a x ha hx)
theorem qwK{a b:AV}{l m:List AV}(h:VLe a b)(h':qaX l m):qaX (a::l) (b::m):=⟨h,h'⟩
def qrB(v:AV)(h:List AObj)(m:Option Nat):Prop:=
 match v with
 | .op k ver off=>okL h (.load m) [.op k ver off]
 |_=>False
theorem qiO{n:Nat}{m:Option Nat}{l:List RV}{t:List AV}{h:List AObj}:jY t h (.cell n m::l)=(qrB (zq n t) h m∧jY t h l):=rfl
theorem qgm{n:Nat}{m:Option Nat}{l:List RV}{t:List AV}{h:List AObj}:zM t h (.cell n m::l)=valL h (.load m) [zq n t]::zM t h l:=rfl
theorem qkP{k ver off:Nat}{h:List AObj}{m:Option Nat}:qrB (.op k ver off) h m=okL h (.load m) [.op k ver off]:=rfl
attribute [go_sem] qiO qgm qkP
theorem qfN:jE [] [] []=some true:=rfl
attribute [go_sem] qfN Option.map_some Bool.true_bne Bool.false_bne Bool.bne_false
theorem quU{a b:Bool}:(a|| !a&&b)=(a||b):=by cases a<;>simp
theorem qBN{a:Bool}:(a==false)= !a:=by cases a<;>rfl
attribute [go_sem] quU qBN Bool.not_eq_true' Bool.or_eq_true decide_eq_false_iff_not Bool.or_eq_false_iff Bool.not_eq_false' Bool.and_eq_false_imp Bool.true_or Bool.or_true Bool.false_or Bool.true_and Bool.not_true Bool.not_false decide_not Bool.not_not
end AF
end
section
namespace AF
open Go
theorem qlK{rs:List RV}{h0 h' tl:List AObj}{K:AV→List AObj→Prop}{t:List AV}{r:AV}(hok:jY t (h'++tl) rs)(hl:h'.length=h0.length)(hlow: ∀o∈h',o∈h0∨lowO h0.length o)(hK:K r h')
  (hv:VLe (frz (fun k=>decide (h0.length≤k)) (h'++tl) 8 (qgh (zM t (h'++tl) rs))) r):fnQ rs h0 K .ret t (h'++tl):=
 ⟨r,h',hK,hok,⟨tl,rfl⟩,hl,hlow,VOut.of 8 hv⟩
theorem qpH{rs:List RV}{h0 h' tl:List AObj}{K:AV→List AObj→Prop}{t:List AV}{r:AV}(hok:jY t (h'++tl) rs)(hl:h'.length=h0.length)(hlow: ∀o∈h',o∈h0∨lowO h0.length o)(hK:K r h')
  (hv:VLe (frz (fun k=>decide (h0.length≤k)) (h'++tl) 8 (qgh (zM t (h'++tl) rs))) r):fnQ rs h0 K .normal t (h'++tl):=
 ⟨r,h',hK,hok,⟨tl,rfl⟩,hl,hlow,VOut.of 8 hv⟩
section
variable {k v : Nat} {h l : List AObj} {o o' : AObj} {ty : TypeId} {cs : List AV}
theorem jz(hk:k<h.length):qA k (h++l)=qA k h:=by unfold qA;rw[List.getElem?_append_left hk]
theorem qnh(hk:k<h.length):setO k (h++l) o=setO k h o++l:=by unfold setO;rw[List.set_append_left _ _ hk]
theorem jj:(setO k h o).length=h.length:=by unfold setO;simp
theorem qau(hk:k<h.length):qA k (setO k h o)=some o:=by unfold qA setO;rw[List.getElem?_set_self hk]
theorem qfq:setO k (setO k h o) o'=setO k h o':=by unfold setO;rw[List.set_set]
theorem qQ(e:qA k h=some (.mem v ty cs)):cellsOf h k v=some cs:=by unfold cellsOf;rw[e];simp
theorem jd(e:qA k h=some o):k<h.length:=by unfold qA at e;exact (List.getElem?_eq_some_iff.1 e).1
theorem qd1{x:AObj}(hx:x∈setO k h o):x∈h∨x=o:=by
 unfold setO at hx;exact List.mem_or_eq_of_mem_set hx
theorem qeJ(hk:k<h.length):cellsOf (h++l) k v=cellsOf h k v:=by unfold cellsOf;rw[jz hk]
end
section
variable {k v w n : Nat} {h l : List AObj} {o o' : AObj} {ty : TypeId} {cs : List AV}
theorem qdS(hk:k<h.length):qA k (setO k h o++l)=some o:=by rw[jz (by rw[jj];exact hk),qau hk]
theorem qfQ(hk:k<h.length):cellsOf (setO k h (.mem w ty cs)++l) k v=if w=v then some cs else none:=by unfold cellsOf;rw[qdS hk]
theorem qqO(hk:k<h.length):setO k (setO k h o++l) o'=setO k h o'++l:=by rw[qnh (by rw[jj];exact hk),qfq]
theorem getO_seta:qA (h.length+n) (setO k h o++l)=l[n]? :=by
 have:= @getO_app (setO k h o) l n
 rwa [jj]at this
theorem setO_seta:setO (h.length+n) (setO k h o++l) o'=setO k h o++l.set n o':=by
 have:= @setO_app (setO k h o) l n o'
 rwa [jj]at this
theorem cellsOf_seta:cellsOf (setO k h o++l) (h.length+n) v=cellsOf l n v:=by unfold cellsOf;rw[getO_seta];rfl
theorem site_seta:qC (setO k h o++l) (h.length+n)=qC l n:=by unfold qC;rw[getO_seta];rfl
end
attribute [go_sem] getO_seta setO_seta cellsOf_seta site_seta
theorem qfp{k:Nat}{h:List AObj}{o:AObj}(e:qA k h=some o):setO k h o=h:=by
 unfold qA at e;unfold setO;obtain⟨h1,h2⟩:=List.getElem?_eq_some_iff.1 e;rw[←h2];exact List.set_getElem_self h1
theorem qqH:qgh []= .tup []:=rfl
attribute [go_sem] qqH
end AF
end
section
namespace AF
open Go
def qDA(c:Option (List AV))(g:AV→AV)(off:Nat):AV:=
 match c with
 |some cs=> .ip ((cs.drop off).map g)
 |none=> .undef
def qeh(o:Option AObj)(ver sz off len:Nat)(g:AV→AV):AV:=
 match o with
 |some (.mem ve _ cs)=>if ve=ver∧off+len*sz≤cs.length then .sl len (fun i=>((cs.drop (off+i*sz)).take sz).map g) else .undef
 |some (.emp ve)=>if ve=ver then .nl else .undef
 |_=> .undef
section
variable {fz : Nat → Bool} {h : List AObj} {n k ver sz off len : Nat}
theorem rei_op:rei fz h (n+1) (.op k ver off)=if fz k=true then qDA (cellsOf h k ver) (rei fz h n) off else .undef:=rfl
theorem rei_osl:rei fz h (n+1) (.osl k ver sz off len)=if fz k=true then qeh (qA k h) ver sz off len (rei fz h n) else .undef:=rfl
theorem frz_op:frz fz h (n+1) (.op k ver off)=if fz k=true then rei fz h (n+1) (.op k ver off) else .op k ver off:=rfl
theorem frz_osl:frz fz h (n+1) (.osl k ver sz off len)=if fz k=true then rei fz h (n+1) (.osl k ver sz off len) else .osl k ver sz off len:=rfl
theorem ipOf_some{cs:List AV}{g:AV→AV}:qDA (some cs) g off= .ip ((cs.drop off).map g):=rfl
theorem slOf_mem{cs:List AV}{g:AV→AV}{ve:Nat}{ty:TypeId}:qeh (some (.mem ve ty cs)) ver sz off len g=if ve=ver∧off+len*sz≤cs.length then .sl len (fun i=>((cs.drop (off+i*sz)).take sz).map g) else .undef:=rfl
theorem slOf_emp{g:AV→AV}{ve:Nat}:qeh (some (.emp ve)) ver sz off len g=if ve=ver then .nl else .undef:=rfl
theorem rei_int{k:IntKind}{a:Int}:rei fz h (n+1) (.int k a)= .int k a:=rfl
theorem rei_bool{a:Bool}:rei fz h (n+1) (.bool a)= .bool a:=rfl
theorem rei_str{a:List UInt8}:rei fz h (n+1) (.str a)= .str a:=rfl
theorem rei_sl{m:Nat}{f:Nat→List AV}:rei fz h (n+1) (.sl m f)= .sl m f:=rfl
theorem rei_nl:rei fz h (n+1) .nl= .nl:=rfl
theorem rei_ip{cs:List AV}:rei fz h (n+1) (.ip cs)= .ip cs:=rfl
theorem rei_agg{cs:List AV}:rei fz h (n+1) (.agg cs)= .agg (cs.map (rei fz h n)):=rfl
theorem rei_tup{cs:List AV}:rei fz h (n+1) (.tup cs)= .tup (cs.map (rei fz h n)):=rfl
theorem rei_fn{f:Fn}{a b:List AV}:rei fz h (n+1) (.fn f a b)= .fn f (a.map (rei fz h n)) (b.map (rei fz h n)):=rfl
theorem rei_nilp:rei fz h (n+1) .nilp= .nilp:=rfl
theorem rei_undef:rei fz h (n+1) .undef= .undef:=rfl
end
attribute [go_sem] rei_op rei_osl frz_op frz_osl ipOf_some slOf_mem slOf_emp rei_int rei_bool rei_str rei_sl rei_nl rei_ip rei_agg rei_tup rei_fn rei_nilp rei_undef Nat.le_add_right Nat.le_refl Nat.mul_one Nat.one_mul
theorem qrv{P:Program}{b:Nat}{r:List RO}{K:Nx}{t:List AV}{h:List AObj}{d:Option Nat}{xs:List X}{j:Nat}{u:Bool}:qF P b (⟨d,some (j,u),.callv,xs⟩::r) K t h=
  (zc (zq j t)=true∧(qM (zq j t) u=true→flags (evs t xs)∧qb3 P (strips (evs t xs)) d (qF P b r K) t h)∧(qM (zq j t) u=false→qF P b r K (qV t d .undef) h)):=by simp only[qF,qJ,jZ,R.kd]
theorem qkM{P:Program}{k:Nat}{args:List AV}{d:Option Nat}{nx:Nx}{t:List AV}{h:List AObj}:qb3 P (.yld k::args) d nx t h=((∃s ts L,qA k h=some (.lp s ts L))∧ku P k args h fun v h'=>nx (qV t d v) h'):=(rfl)
theorem qde:valP (.un .not) [.undef]= .bool true:=rfl
theorem qmJ{g q:Bool}:jK (.bool false) (.gd g .undef) (.bool q)= .bool q:=rfl
attribute [go_sem] qrv qkM qde qmJ true_implies false_implies Bool.false_eq_true Bool.true_eq_false
end AF
end
section
namespace AF
open Go
theorem qmw{P:Program}{b:Nat}{l:List RO}: ∀ {nx nx':Nx} {t:List AV} {h:List AObj},(∀t h,nx t h→nx' t h)→qF P b l nx t h→qF P b l nx' t h:=by
 induction l with
 |nil=>intro nx nx' t h hn H;exact hn _ _ H
 |cons o l ih=>intro nx nx' t h hn H;exact jQ (fun t h H=>ih hn H) H
theorem qec{h0:List AObj}{t:List AV}{Q Q':Ex→Nx}{h:List AObj}(hq: ∀e t h,Q e t h→Q' e t h)(H:qeb h0 t Q h):qeb h0 t Q' h:=by
 obtain⟨hh,s,ts,L,h1,h2,h3,h4⟩:=H;refine⟨hh,s,ts,L,h1,h2,h3,?_⟩;cases s with
 |ready=>exact hq _ _ _ h4
 |ret=>exact hq _ _ _ h4
 |exit id=>exact hq _ _ _ h4
 |busy=>exact h4
theorem qaA{P:Program}{b:Nat}{x:C}: ∀ {Q Q':Ex→Nx} {t:List AV} {h:List AObj},(∀e t h,Q e t h→Q' e t h)→qY P b x Q t h→qY P b x Q' t h:=by
 induction x with
 |skip=>intro Q Q' t h hq H;exact hq _ _ _ H
 |ops l=>intro Q Q' t h hq H;exact qmw (fun t h H=>hq _ _ _ H) H
 |seq x y ihx ihy=>
  intro Q Q' t h hq H;refine ihx (fun e t h H=> ?_) H;cases e with
  |normal=>exact ihy hq H
  |exit id=>exact hq _ _ _ H
  |ret=>exact hq _ _ _ H
 |cond c x y ihx ihy=>
  intro Q Q' t h hq H;simp only[qY,qfX]at*;split at H
  ·exact⟨fun e=>ihx hq (H.1 e),fun e=>ihy hq (H.2 e)⟩
  ·exact⟨ihx hq H.1,ihy hq H.2⟩
  ·exact H.elim
 |block id x ih=>
  intro Q Q' t h hq H;refine ih (fun e t h H=> ?_) H;cases e with
  |normal=>exact hq _ _ _ H
  |ret=>exact hq _ _ _ H
  |exit i=>
   simp only[Ex.inBlock]at*;split
   ·rename_i e;rw[if_pos e]at H;exact hq _ _ _ H
   ·rename_i e;rw[if_neg e]at H;exact hq _ _ _ H
 |loop x ih=>
  intro Q Q' t h hq H;obtain⟨I,h1,h2⟩:=H;refine⟨I,h1,fun n t' h' hi=>ih (fun e t h H=> ?_) (h2 n t' h' hi)⟩;cases e with
  |normal=>exact H
  |exit id=>exact hq _ _ _ H
  |ret=>exact hq _ _ _ H
 |range u ps x y ihx ihy=>
  intro Q Q' t h hq H L hy
  have:=H L hy
  split at this
  ·exact this.le (qaX.refl _) (fun v h' hr=>⟨v,VLe.refl _,qec hq hr⟩)
  ·exact this
 |exit id=>intro Q Q' t h hq H;exact hq _ _ _ H
 |ret=>intro Q Q' t h hq H;exact hq _ _ _ H
 |wk=>
  intro Q Q' t h hq H;obtain⟨t',h',h1,h2⟩:=H;exact⟨t',h',h1,hq _ _ _ h2⟩
 |draw d=>
  intro Q Q' t h hq H;obtain⟨M,h1,h2⟩:=H;exact⟨M,h1,fun t' h' hm=>hq _ _ _ (h2 t' h' hm)⟩
 |bad=>intro Q Q' t h hq H;exact H
def qvu(o:Option AObj)(ver sz off n:Nat):Option (Nat×List AV):=
 match o with
 |some (.mem v _ cs)=>if v=ver∧off+n*sz≤cs.length then some (n,(cs.drop off).take (n*sz)) else none
 |some (.emp v)=>if v=ver∧n=0 then some (0,[]) else none
 |_=>none
theorem qc9{h:List AObj}{k ver sz off n:Nat}:qt h (.osl k ver sz off n)=qvu (qA k h) ver sz off n:=rfl
theorem qnn{v ver sz off n:Nat}{ty:TypeId}{cs:List AV}:qvu (some (.mem v ty cs)) ver sz off n=if v=ver∧off+n*sz≤cs.length then some (n,(cs.drop off).take (n*sz)) else none:=rfl
theorem qnm{v ver sz off n:Nat}:qvu (some (.emp v)) ver sz off n=if v=ver∧n=0 then some (0,[]) else none:=rfl
theorem qhS{k v z p n k' v' z' p' n':Nat}:qcr (.osl k v z p n) (.osl k' v' z' p' n')=(k !=k'):=rfl
theorem qjI{k v z p n m:Nat}{f:Nat→List AV}:qcr (.osl k v z p n) (.sl m f)=true:=rfl
theorem qjH{k v z p n:Nat}:qcr (.osl k v z p n) .nl=true:=rfl
attribute [go_sem] Int.toNat_zero decide_true decide_false beq_self_eq_true
attribute [go_sem] qc9 qnn qnm qhS qjI qjH
theorem qgJ{g:List AObj}{z:Nat}{i:AV}:valL g (.idxA z) [.nl,i]= .undef:=rfl
theorem qcX{g:List AObj}{n:Option Nat}:valL g (.load n) [.undef]= .undef:=rfl
theorem qdc{g:List AObj}{n:Nat}:valL g (.fldA n) [.undef]= .undef:=rfl
theorem qhU{op:BinOp}{y:AV}:qaH op .undef y= .undef:=rfl
theorem qmP{p g:Bool}:jK (.bool true) (.bool p) (.gd g .undef)= .bool p:=rfl
theorem qmK{p g:Bool}:jK (.bool false) (.gd g .undef) (.bool p)= .bool p:=rfl
attribute [go_sem] qgJ qcX qdc qhU qmP qmK
theorem qtz{P:Program}{b:Nat}{u:X}{ps:List Nat}{x y:C}{Q:Ex→Nx}{t:List AV}{h:List AObj}:qY P b (.range u ps x y) Q t h=qfg P (ev t u) ps (qY P b x) (qY P b y) Q t h:=(rfl)
attribute [go_sem] qtz
end AF
end
section
namespace AF
open Go
theorem HR.move{w:World}{σ:List OB}{h:List AObj}(H:HR w σ h){k j vj:Nat}{ty:TypeId}{cs:List AV}(hj:qA j h=some (.mem vj ty cs))(hk:qC h k=true)(hne:k≠j):
  ∃σ',HR w σ' (setO k (setO j h (.emp (vj+1))) (.mem (qr (qA k h)+1) ty cs))∧Ext w σ w σ'∧
   ∀sz off len x,VR w σ (.osl j vj sz off len) x→VR w σ' (.osl k (qr (qA k h)+1) sz off len) x:=by
 obtain⟨ok,hok,hver⟩:=zI H hk;have hjl:j<σ.length:=by rw[H.len];exact jd hj
 have hkl:k<σ.length:=(List.getElem?_eq_some_iff.1 hok).1;obtain⟨oj,hoj⟩: ∃oj,σ[j]? =some oj:=⟨_,List.getElem?_eq_getElem hjl⟩
 have hobj:=H.obj j _ oj hj hoj;obtain⟨m1,m2,b,arr,m3,m4,m5,m6,m7,m8⟩:=hobj;rw[hver]
 let oj':OB:= { oj with blk:=none,ver:=oj.ver+1 }
 let ok':OB:= { oj with ver:=ok.ver+1 }
 let σ':=(σ.set j oj').set k ok'
 have gk:σ'[k]? =some ok':=by simp[σ',hkl]
 have gj:σ'[j]? =some oj':=by simp only[σ'];rw[List.getElem?_set_ne hne];simp[hjl]
 have go: ∀i,i≠k→i≠j→σ'[i]? =σ[i]? :=by
  intro i h1 h2;simp only[σ'];rw[List.getElem?_set_ne (fun e=>h1 e.symm),List.getElem?_set_ne (fun e=>h2 e.symm)]
 have blk: ∀(i:Nat) (o:OB) (b:Nat),σ'[i]? =some o→o.blk=some b→(i=k∧oj.blk=some b)∨(i≠k∧i≠j∧σ[i]? =some o):=by
  intro i o b h1 h2
  by_cases e1:i=k
  ·subst e1;rw[gk]at h1;cases h1;exact .inl ⟨rfl,h2⟩
  ·by_cases e2:i=j
   ·subst e2;rw[gj]at h1;cases h1;cases h2
   ·rw[go i e1 e2]at h1;exact .inr ⟨e1,e2,h1⟩
 have hext:Ext w σ w σ':=by
  refine⟨rfl,rfl,rfl,Nat.le_refl _,fun _ _ _=>rfl,?_,?_,fun b r h=>⟨r,h⟩⟩
  ·rintro b ⟨i,o,h1,h2⟩;rcases blk i o b h1 h2 with⟨_,h3⟩|⟨_,_,h3⟩
   ·exact .inl ⟨j,oj,hoj,h3⟩
   ·exact .inl ⟨i,o,h3,h2⟩
  ·intro i o h1
   by_cases e1:i=k
   ·subst e1;rw[hok]at h1;cases h1;exact⟨ok',gk,by simp[ok'],by simp[ok']⟩
   ·by_cases e2:i=j
    ·subst e2;rw[hoj]at h1;cases h1;exact⟨oj',gj,by simp[oj'],by simp[oj']⟩
    ·exact⟨o,by rw[go i e1 e2];exact h1,Nat.le_refl _,fun _=>rfl⟩
 refine⟨σ',⟨by simp[σ',setO,H.len],?_,?_,?_⟩,hext,?_⟩
 ·intro i i' o o' b h1 h2 h3 h4;rcases blk i o b h1 h3 with⟨rfl,g1⟩|⟨g0,g1,g2⟩<;>rcases blk i' o' b h2 h4 with⟨rfl,g1'⟩|⟨g0',g1',g2'⟩
  ·rfl
  ·exact absurd (H.inj i' j o' oj b g2' hoj h4 g1) g1'
  ·exact absurd (H.inj i j o oj b g2 hoj h3 g1') g1
  ·exact H.inj i i' o o' b g2 g2' h3 h4
 ·intro i o b h1 h2;rcases blk i o b h1 h2 with⟨_,g1⟩|⟨_,_,g2⟩
  ·exact H.lt j oj b hoj g1
  ·exact H.lt i o b g2 h2
 ·intro i a o ha ho
  by_cases e1:i=k
  ·subst e1;have hkh:i<(setO j h (.emp (vj+1))).length:=by rw[jj,←H.len];exact hkl
   have:=qau (o:= .mem (ok.ver+1) ty cs) hkh
   unfold qA at this;rw[this]at ha;cases ha;rw[gk]at ho;cases ho;exact⟨rfl,m2,b,arr,m3,m4,m5,m6,m7,fun i c x hc hx=>(m8 i c x hc hx).ext hext⟩
  ·by_cases e2:i=j
   ·subst e2;have hjh:i<h.length:=by rw[←H.len];exact hjl
    simp only[setO]at ha;rw[List.getElem?_set_ne hne,List.getElem?_set_self hjh]at ha;cases ha;rw[gj]at ho;cases ho;exact⟨by simp[oj',m1],rfl⟩
   ·rw[go i e1 e2]at ho;simp only[setO]at ha;rw[List.getElem?_set_ne (fun e=>e1 e.symm),List.getElem?_set_ne (fun e=>e2 e.symm)]at ha;exact (H.obj i a o ha ho).ext hext (fun _ _=>rfl)
 ·intro sz off len x hx;cases hx with
  |imm h=>cases h
  |osl o ho hs hle hh=>
   rw[hoj]at ho;cases ho;refine .osl ok' gk hs (Nat.le_refl _) (fun _=> ?_);exact hh m1
def fnM(rs:List RV)(h0:List AObj)(k:Nat)(K:AV→List AObj→Prop):Ex→Nx
 | .exit _,_,_=>False
 |_,t,hh=> ∃(j vj sz off len:Nat) (ty:TypeId) (cs:List AV) (tl:List AObj),jY t hh rs∧qgh (zM t hh rs)= .osl j vj sz off len∧hh=h0++tl∧h0.length≤j∧qA j hh=some (.mem vj ty cs)∧
   (∀c∈cs,lowV h0.length c=true)∧qC h0 k=true∧K (.osl k (qr (qA k h0)+1) sz off len) (setO k h0 (.mem (qr (qA k h0)+1) ty cs))
theorem qhQ{P:Program}{f nt ns:Nat}{rs:List RV}{c:C}(hf:qB P f nt ns rs c){args:List AV}{h:List AObj}{K:AV→List AObj→Prop}(k:Nat)(ha:args.length≤nt)
  (hw:qY P h.length c (fnM rs h k K) (args++List.replicate (nt-args.length) .undef) (h++List.replicate ns (.emp 0))):jD P f args h K:=by
 obtain⟨fn,body,js,imp,wks,h1,h2,h3,rfl,rfl,h6,h7⟩:=hf;refine⟨by simp[okF,h1,h2,h3],fun w σ xs H hv=> ?_⟩;refine callsIn_of_wp_marks h1 h2 trivial ?_;obtain⟨p1,p2⟩:=H.pushN js.length;have hsr:SR w.heap.size w (σ++List.replicate js.length ⟨none,0,0,0⟩) (args++List.replicate (fn.ntmps-args.length) .undef) (h++List.replicate js.length (.emp 0))
   { tmps:=xs.toArray++Array.replicate (fn.ntmps-xs.toArray.size) Go.undef,defers:= [] }:=by
  refine⟨p1,by simp[hv.1],fun i c x hc hx=> ?_,⟨[],rfl,.nil,Nat.le_refl _,by simp⟩⟩;rw[List.getElem?_append]at hc;simp only[Array.getElem?_append]at hx;have hz:xs.toArray.size=args.length:=by simp[hv.1]
  split at hc
  ·rename_i hi;rw[if_pos (by omega)]at hx;exact (hv.2 i c x hc (by simpa using hx)).ext p2
  ·rw[List.getElem?_replicate]at hc;split at hc
   ·cases hc;exact .imm .undef
   ·cases hc
 refine wpIn_mono (qg2 (b:=h.length) h7 w.heap.size none _ w _ _ _ _ hw (by simp) hsr) ?_;rintro e a' w' ⟨z,σ',t',hh,he,g1,g2,g3⟩;have key:(∃(j vj sz off len:Nat) (ty:TypeId) (cs:List AV) (tl:List AObj),jY t' hh rs∧qgh (zM t' hh rs)= .osl j vj sz off len∧hh=h++tl∧h.length≤j∧qA j hh=some (.mem vj ty cs)∧
   (∀c∈cs,lowV h.length c=true)∧qC h k=true∧K (.osl k (qr (qA k h)+1) sz off len) (setO k h (.mem (qr (qA k h)+1) ty cs)))→
   LeavesInM Fence.wide 0 P fn a'.tmps (fun e w'=> ∃v σ' r h',K r h'∧e= .returned v∧HR w' σ' h'∧VR w' σ' r v∧Ext w σ w' σ') a'.defers .returning w':=by
  rintro⟨j,vj,sz,off,len,ty,cs,tl,k1,k2,rfl,k3,k4,k5,k6,hK⟩;obtain⟨ms,d1,d2,d3,d4⟩:=g1.df;rw[d1];refine qbU (N:=w.heap.size) ms w' d2 (fun r hr=>⟨(d4 r hr).1,(d4 r hr).2.2.2⟩) (fun w1 e1=> ?_);have H1:=g1.hr.dt e1;obtain⟨v,v1,v2⟩:=qdx (P:=P) H1 g1.sz (fun i c x hc hx=>(g1.tm i c x hc hx).dt e1) h6 k1;rw[k2]at v2;have ee:Ext w σ w1 σ':=(p2.trans g2).dt e1;have hkl:k<h.length:=by
   have:=k6
   unfold qC at this;split at this
   ·rename_i hx;exact jd hx
   ·rename_i hx;exact jd hx
   ·rename_i hx;exact jd hx
   ·cases this
  have hkt:qC (h++tl) k=true:=by unfold qC at k6 ⊢;rw[jz hkl];exact k6
  obtain⟨σ2,q1,q2,q3⟩:=H1.move k4 hkt (by omega);have q3':=q3 _ _ _ _ v2;rw[jz hkl]at q1 q3';have eh:setO k (setO j (h++tl) (.emp (vj+1))) (.mem (qr (qA k h)+1) ty cs)=setO k h (.mem (qr (qA k h)+1) ty cs)++setO (j-h.length) tl (.emp (vj+1)):=by
   unfold setO;rw[List.set_append_right _ _ k3,List.set_append_left _ _ hkl]
  rw[eh]at q1;obtain⟨m1,m2⟩:=HR.trunc H (ee.trans q2) q1 jj (fun o ho=>by
   rcases qd1 ho with h1|rfl
   ·exact .inl h1
   ·exact .inr k5)
  refine⟨v,v1,v,_,_,_,hK,rfl,m1,?_,m2⟩;cases q3' with
  |imm h=>cases h
  |osl o ho hs hle hh=>
   refine .osl o ?_ hs hle hh;rw[List.getElem?_take,if_pos hkl];exact ho
 cases e with
 |normal=>cases he;exact key g3
 |ret=>cases he;exact key g3
 |exit id=>cases he;exact g3.elim
 |goto l=>cases he
 |panic c=>cases he
 |outgrown=>cases he
theorem qsM{P:Program}{f nt ns:Nat}{rs:List RV}{c:C}(hf:qB P f nt ns rs c){args:List AV}{h:List AObj}{r:AV}{h':List AObj}(k:Nat)(ha:args.length≤nt)
  (hw:qY P h.length c (fnM rs h k fun r1 h1=>r1=r∧h1=h') (args++List.replicate (nt-args.length) .undef) (h++List.replicate ns (.emp 0))):ACalls P f args h r h':=(qhQ hf k ha hw).calls
end AF
end
section
namespace AF
open Go
section
variable {P : Program} {b : Nat} {r : List RO} {K : Nx} {t : List AV} {h : List AObj} {d : Option Nat} {xs : List X} {j : Nat} {u : Bool}
end
end AF
end
section
namespace AF
open Go
def qkR(o:Option AObj)(ver:Nat):Option (List AV):=
 match o with
 |some (.mem v _ cs)=>if v=ver then some cs else none
 |_=>none
def qsp(o:Option AObj)(ver:Nat):Bool:=
 match o with
 |some (.mem v _ _)=>v==ver
 |some (.emp v)=>v==ver
 |_=>false
section
variable {h l : List AObj} {i j k ver v : Nat} {o o' o'' : AObj} {ty : TypeId} {cs : List AV}
theorem qcB:cellsOf h k ver=qkR (qA k h) ver:=rfl
theorem ql8:zR h k ver=qsp (qA k h) ver:=rfl
theorem qcA:qkR (some (.mem v ty cs)) ver=if v=ver then some cs else none:=rfl
theorem qiw:qsp (some (.mem v ty cs)) ver=(v==ver):=rfl
theorem qbQ(hne:k≠j):qA k (setO j h o)=qA k h:=by unfold qA setO;rw[List.getElem?_set_ne (fun e=>hne e.symm)]
end
end AF
end
section
namespace AF
open Go
theorem jW{α β:Type}{f:α→Option β}: ∀ {l:List α} {ys:List β},l.mapM f=some ys→ys.length=l.length∧ ∀(i:Nat) x y,l[i]? =some x→ys[i]? =some y→f x=some y:=by
 intro l
 induction l with
 |nil=>intro ys h;simp at h;subst h;simp
 |cons a l ih=>
  intro ys h;rw[List.mapM_cons]at h;cases ha:f a with
  |none=>simp[ha]at h
  |some b=>
   cases hl:l.mapM f with
   |none=>simp[ha,hl]at h
   |some zs=>
    simp[ha,hl]at h;subst h;obtain⟨h1,h2⟩:=ih hl;refine⟨by simp[h1],fun i x y hx hy=> ?_⟩;cases i with
    |zero=>simp at hx hy;subst hx hy;exact ha
    |succ i=>exact h2 i x y (by simpa using hx) (by simpa using hy)
inductive FK where
 |bool
 |int (k:IntKind)
 |str
 deriving DecidableEq
def qys:FK→AV→Prop
 | .bool,a=> ∃b,a= .bool b
 | .int k,a=> ∃n,a= .int k n∧(Lit.int k n).wf=true
 | .str,a=> ∃s:List UInt8,a= .str s∧s.length≤maxLen
def qc3:List FK→List AV→Prop
 | [],[]=>True
 |k::ks,a::as=>qys k a∧qc3 ks as
 |_,_=>False
theorem qlt: ∀ {ks:List FK} {as:List AV},qc3 ks as→as.length=ks.length:=by
 intro ks
 induction ks with
 |nil=>intro as h;cases as<;>simp_all [qc3]
 |cons k ks ih=>intro as h;cases as with
  |nil=>simp[qc3]at h
  |cons a as=>simp[ih h.2]
def qyr(P:Program)(t:TypeId):Option FK:=
 match P.underlying t with
 |some .bool=>some .bool
 |some (.int k)=>some (.int k)
 |some .string=>some .str
 |_=>none
def qpq(P:Program):Nat→List Field→Option (List FK)
 |_,[]=>some []
 |n,f::r=>match qyr P f.type,qpq P (n+1) r with
  |some k,some l=>if f.offset=n∧P.cellsOf f.type=1 then some (k::l) else none
  |_,_=>none
def qpB(P:Program)(t:TypeId):Option (List FK):=
 match P.underlying t with
 |some (.struct fs)=>match qpq P 0 fs.toList with
  |some l=>if P.cellsOf t=l.length then some l else none
  |none=>none
 |_=>(qyr P t).bind fun k=>if P.cellsOf t=1 then some [k] else none
section
variable {H : Type} {enc : TypeId × Value → H} {P : Program} {w : World} {sp : Nat → Bool} {held : Bool} {ow : Nat → Prop}
theorem qls{t:TypeId}{k:FK}{fuel:Nat}{cs:List Value}{d:DataW H}{ps:List MemPlace}(hk:qyr P t=some k)(h:DataW.trod enc P w 0 sp held fuel t cs=some (d,ps)):
  ∃a v,cs= [v]∧qys k a∧VI w ow a v∧v.oneCell'=true:=by
 unfold qyr at hk;split at hk
 ·rename_i ht;cases hk;obtain⟨b,rfl,_⟩:=DataW.trod_bool ht h;exact⟨.bool b,_,rfl,⟨b,rfl⟩,.bool,rfl⟩
 ·rename_i k ht;cases hk;obtain⟨n,rfl,_,hw⟩:=DataW.trod_int ht h;exact⟨.int k n,_,rfl,⟨n,rfl,hw⟩,.int,rfl⟩
 ·rename_i ht;cases hk;obtain⟨s,rfl,_,hw⟩:=DataW.trod_string ht h;have hsz:s.data.toList.length≤maxLen:=by rw[Array.length_toList];exact hw
  exact⟨.str s.data.toList,_,rfl,⟨_,rfl,hsz⟩,by have:= @VI.str w ow s.data.toList;rw[Array.toArray_toList]at this;exact this,rfl⟩
 ·cases hk
theorem qii{n:Nat}{fs:List Field}{ks:List FK}(hk:qpq P n fs=some ks):fs.length=ks.length∧ ∀(i:Nat) f k,fs[i]? =some f→ks[i]? =some k→f.offset=n+i∧P.cellsOf f.type=1∧qyr P f.type=some k:=by
 induction fs generalizing n ks with
 |nil=>cases hk;simp
 |cons f fs ih=>
  simp only[qpq]at hk;split at hk
  ·rename_i k l h1 h2;split at hk
   ·rename_i h3;cases hk;obtain⟨g1,g2⟩:=ih h2;refine⟨by simp[g1],fun i x y hx hy=> ?_⟩;cases i with
    |zero=>simp at hx hy;subst hx hy;exact⟨by omega,h3.2,h1⟩
    |succ i=>
     have:=g2 i x y (by simpa using hx) (by simpa using hy)
     exact⟨by omega,this.2⟩
   ·cases hk
  ·cases hk
theorem qpr{ks:List FK}{as:List AV}(hl:as.length=ks.length)(h: ∀(i:Nat) k a,ks[i]? =some k→as[i]? =some a→qys k a):qc3 ks as:=by
 induction ks generalizing as with
 |nil=>cases as with
  |nil=>trivial
  |cons a as=>simp at hl
 |cons k ks ih=>cases as with
  |nil=>simp at hl
  |cons a as=>exact⟨h 0 k a rfl rfl,ih (by simpa using hl) (fun i k a h1 h2=>h (i+1) k a (by simpa using h1) (by simpa using h2))⟩
theorem qlD{t:TypeId}{ks:List FK}{fuel:Nat}{cs:List Value}{d:DataW H}{ps:List MemPlace}(hk:qpB P t=some ks)(h:DataW.trod enc P w 0 sp held fuel t cs=some (d,ps)):
  ks.length=P.cellsOf t∧ ∃as:List AV,qc3 ks as∧cs.length=as.length∧(∀(i:Nat) v,cs[i]? =some v→v.oneCell'=true)∧ ∀(i:Nat) c v,as[i]? =some c→cs[i]? =some v→VI w ow c v:=by
 unfold qpB at hk;split at hk
 ·rename_i fs ht;split at hk
  ·rename_i l hl;split at hk
   ·rename_i hc;cases hk;refine⟨hc.symm,?_⟩;obtain⟨g1,g2⟩:=qii hl;cases fuel with
    |zero=>simp[DataW.trod]at h
    |succ fuel=>
     simp only[DataW.trod,ht]at h;split at h
     ·rename_i hcl;rw[Option.map_eq_some_iff]at h;obtain⟨xs,hm,_⟩:=h;obtain⟨m1,m2⟩:=jW hm;have key: ∀i,i<ks.length→ ∃a v k,ks[i]? =some k∧cs[i]? =some v∧qys k a∧VI w ow a v∧v.oneCell'=true:=by
       intro i hi;have hfi:i<fs.toList.length:=by omega
       have hxi:i<xs.length:=by omega
       have e1:fs.toList[i]? =some fs.toList[i]:=List.getElem?_eq_getElem hfi;have e2:ks[i]? =some ks[i]:=List.getElem?_eq_getElem hi;have e3:xs[i]? =some xs[i]:=List.getElem?_eq_getElem hxi;obtain⟨q1,q2,q3⟩:=g2 i _ _ e1 e2;have q4:=m2 i _ _ e1 e3;rw[q1,q2,Nat.zero_add]at q4;obtain⟨a,v,r1,r2,r3,r4⟩:=qls (ow:=ow) q3 (show DataW.trod enc P w 0 sp held fuel fs.toList[i].type ((cs.drop i).take 1)=some (xs[i].1,xs[i].2)from q4)
       have:cs[i]? =some v:=by
        have:=congrArg (fun l=>l[0]?) r1
        simpa[List.getElem?_take,List.getElem?_drop] using this
       exact⟨a,v,_,e2,this,r2,r3,r4⟩
      have hcs:cs.length=ks.length:=by omega
      have ex: ∃g:Nat→AV,∀i,i<ks.length→ ∃v k,ks[i]? =some k∧cs[i]? =some v∧qys k (g i)∧VI w ow (g i) v∧v.oneCell'=true:=by
       refine⟨fun i=>if hi:i<ks.length then (key i hi).choose else .undef,fun i hi=> ?_⟩;simp only[dif_pos hi];obtain⟨v,k,hh⟩:=(key i hi).choose_spec;exact⟨v,k,hh⟩
      obtain⟨g,hg⟩:=ex;refine⟨(List.range ks.length).map g,qpr (by simp) (fun i k a h1 h2=> ?_),by simp[hcs],fun i v hv=> ?_,fun i c v hc hv=> ?_⟩
      ·have hi:i<ks.length:=(List.getElem?_eq_some_iff.1 h1).1;obtain⟨v,k',q1,q2,q3,_⟩:=hg i hi;simp[hi]at h2;rw[h1]at q1;cases q1;rw[←h2];exact q3
      ·have hi:i<ks.length:=by have:=(List.getElem?_eq_some_iff.1 hv).1;omega
       obtain⟨v',k',q1,q2,q3,q4,q5⟩:=hg i hi;rw[hv]at q2;cases q2;exact q5
      ·have hi:i<ks.length:=by have:=(List.getElem?_eq_some_iff.1 hv).1;omega
       obtain⟨v',k',q1,q2,q3,q4,q5⟩:=hg i hi;simp[hi]at hc;rw[hv]at q2;cases q2;rw[←hc];exact q4
     ·cases h
   ·cases hk
  ·cases hk
 ·rw[Option.bind_eq_some_iff]at hk;obtain⟨k,hk1,hk2⟩:=hk;split at hk2
  ·rename_i hc;cases hk2;obtain⟨a,v,rfl,r2,r3,r4⟩:=qls (ow:=ow) hk1 h;refine⟨hc.symm,[a],⟨r2,trivial⟩,rfl,fun i x hx=> ?_,fun i c x hc hx=> ?_⟩
   ·cases i<;>simp at hx;subst hx;exact r4
   ·cases i<;>simp at hx hc;subst hx hc;exact r3
  ·cases hk2
theorem qiT{t e:TypeId}{ks:List FK}{v:Value}{d:DataW H}{ps:List MemPlace}(ht:P.underlying t=some (.slice e))(hk:qpB P e=some ks)(h0:0<ks.length)
  {base:Nat} (hval:Value.okWide P w .any base t v) (how: ∀b,¬ow b) (h:DataW.Trod enc P w 0 (fun _=>true) held t v d ps):
  ∃(n:Nat) (f:Nat→List AV),n≤maxLen∧VI w ow (.sl n f) v∧ ∀i,i<n→qc3 ks (f i):=by
 have hc:Cell.ok P w .any base t v:=by
  unfold Value.okWide at hval;rw[ht]at hval;simp only at hval;unfold Cell.okWide at hval;rw[ht]at hval;simpa using hval
 obtain⟨fuel,h⟩:=h;cases fuel with
 |zero=>simp[DataW.trod]at h
 |succ fuel=>
  unfold Cell.ok at hc;rw[ht]at hc;split at hc<;>first|(rename_i g _;cases g;done)|skip
  all_goals first|(rename_i g;cases g;done)|skip
  ·exact⟨0,fun _=> [],Nat.zero_le _,.nilsl,fun i hi=>absurd hi (Nat.not_lt_zero _)⟩
  ·rename_i e' a len cap he;cases he;obtain⟨c1,c2,c3,c4,row,cells,c5,c6⟩:=hc;obtain⟨b,off,spot⟩:=a;simp only at c4;subst c4;have hadd: ∀n,(⟨b,off,none⟩:Addr).add n=⟨b,off+n,none⟩:=by
    intro n;unfold Addr.add;split
    ·rename_i h;subst h;rfl
    ·rfl
   have hadd2: ∀n m,(⟨b,off+n,none⟩:Addr).add m=⟨b,off+n+m,none⟩:=by
    intro n m;unfold Addr.add;split
    ·rename_i h;subst h;rfl
    ·rfl
   have hlt:b<w.heap.size:=by
    unfold World.shape? at c5;split at c5
    ·rename_i hx;exact (Array.getElem?_eq_some_iff.1 hx).1
    ·cases c5
   simp only[DataW.trod,ht,Value.cells,hadd]at h;split at h
   ·rename_i hcc;rw[Option.bind_eq_some_iff]at h;obtain⟨elems,hm,_⟩:=h;obtain⟨m1,m2⟩:=jW hm;simp only[List.length_range]at m1;have key: ∀i,i<len→ ∃(as:List AV) (cs:List Value),qc3 ks as∧cs.length=as.length∧cs.length=ks.length∧(∀(j:Nat) v,cs[j]? =some v→w.cell? ⟨b,off+i*ks.length+j,none⟩=some v)∧
      (∀(j:Nat) v,cs[j]? =some v→v.oneCell'=true)∧ ∀(j:Nat) c v,as[j]? =some c→cs[j]? =some v→VI w ow c v:=by
     intro i hi;have e1:(List.range len)[i]? =some i:=by simp[hi]
     have e2:elems[i]? =some elems[i]:=List.getElem?_eq_getElem (by omega);have h3:=m2 i _ _ e1 e2;rw[Option.bind_eq_some_iff]at h3;obtain⟨cs,h3,h4⟩:=h3;obtain⟨f1,as,f2,f3,f4,f5⟩:=qlD (ow:=ow) hk (show DataW.trod enc P w 0 (fun _=>true) held fuel e cs=some (elems[i].1,elems[i].2)from h4);unfold World.cells? at h3;rw[if_pos (Nat.zero_le _)]at h3;obtain⟨n1,n2⟩:=jW h3;simp only[List.length_range]at n1;refine⟨as,cs,f2,f3,by omega,fun j v hj=> ?_,f4,f5⟩;have hjl:j<P.cellsOf e:=by have:=(List.getElem?_eq_some_iff.1 hj).1;omega
     have:=n2 j j v (by simp[hjl]) hj
     rw[hadd2]at this;rw[f1];exact this
    have ex: ∃g:Nat→List AV×List Value,∀i,i<len→qc3 ks (g i).1∧(g i).2.length=(g i).1.length∧(g i).2.length=ks.length∧(∀(j:Nat) v,(g i).2[j]? =some v→w.cell? ⟨b,off+i*ks.length+j,none⟩=some v)∧
      (∀(j:Nat) v,(g i).2[j]? =some v→v.oneCell'=true)∧ ∀(j:Nat) c v,(g i).1[j]? =some c→(g i).2[j]? =some v→VI w ow c v:=by
     refine⟨fun i=>if hi:i<len then ((key i hi).choose,(key i hi).choose_spec.choose) else ([],[]),fun i hi=> ?_⟩;simp only[dif_pos hi];exact (key i hi).choose_spec.choose_spec
    obtain⟨g,hg⟩:=ex;refine⟨len,fun i=>(g i).1,Nat.le_trans c1 hcc.2.2,.sl ks.length b off cap (fun i j=>(g i).2.getD j Go.undef) c1 hcc.2.2 (fun _=>how b) hlt (fun i hi=> ?_) (fun i j hi hj=> ?_) (fun i j hi hj=> ?_) (fun i j c hi hc=> ?_),fun i hi=>(hg i hi).1⟩
    ·obtain⟨_,q2,q3,_⟩:=hg i hi;omega
    ·obtain⟨_,q2,q3,q4,_⟩:=hg i hi;have e:(g i).2[j]? =some (g i).2[j]:=List.getElem?_eq_getElem (by omega);rw[q4 j _ e,List.getD_eq_getElem?_getD,e];rfl
    ·obtain⟨_,q2,q3,q4,q5,_⟩:=hg i hi;have e:(g i).2[j]? =some (g i).2[j]:=List.getElem?_eq_getElem (by omega);rw[List.getD_eq_getElem?_getD,e];exact q5 j _ e
    ·obtain⟨_,q2,q3,q4,q5,q6⟩:=hg i hi;have hj:=(List.getElem?_eq_some_iff.1 hc).1;have e:(g i).2[j]? =some (g i).2[j]:=List.getElem?_eq_getElem (by omega);rw[List.getD_eq_getElem?_getD,e];exact q6 j c _ hc e
   ·cases h
  ·rename_i hno1 hno2 _ _ _;exact hc.elim
end
theorem HR.nil(w:World):HR w [] []:=⟨rfl,by simp,by simp,by simp⟩
theorem qd9(b:Nat): ¬own [] b:=fun ⟨k,o,h,_⟩=>by simp at h
theorem VRs.nil'{w:World}{σ:List OB}:VRs w σ [] []:=⟨rfl,by simp⟩
theorem VRs.cons'{w:World}{σ:List OB}{a:AV}{v:Value}{as:List AV}{vs:List Value}(h:VR w σ a v)(h':VRs w σ as vs):VRs w σ (a::as) (v::vs):=by
 refine⟨by simp[h'.1],fun i c x hc hx=> ?_⟩;cases i with
 |zero=>simp at hc hx;subst hc hx;exact h
 |succ i=>exact h'.2 i c x (by simpa using hc) (by simpa using hx)
end AF
end
section
namespace AF
open Go Go.ChangeShapes Go.WideShapes Go.ChangeAt Go.RowKit
section
variable {H : Type} {enc : TypeId × Value → H} {P : Program} {W W' : World}
theorem qfy(hl:laidOutB P=true)(hb:Below W.heap.size W W'): ∀ {ts:List TypeId} {vs:List Value} {ds:List (DataW H)} {ps:List MemPlace},(∀t∈ts,P.readableRec t=true∧t<P.types.size)→
  (∀x∈ps,x.block<W.heap.size)→DataW.TrodAll enc P W 0 (fun _=>true) true ts vs ds ps→DataW.TrodAll enc P W' 0 (fun b=>decide (b<W.heap.size)) true ts vs ds ps:=by
 intro ts
 induction ts with
 |nil=>
  intro vs ds ps _ _ h
  match vs,ds,h with
  | [],[],h=>exact h
 |cons t ts ih=>
  intro vs ds ps ht hp h
  match vs,ds,h with
  |v::vs,d::ds,⟨p,q,h1,h2,e⟩=>
   subst e;refine⟨p,q,?_,?_,rfl⟩
   ·exact Below.trod hl (ht t (by simp)).1 (ht t (by simp)).2 h1 hb (fun x hx=>hp x (by simp[hx]))
   ·exact ih (fun u hu=>ht u (by simp[hu])) (fun x hx=>hp x (by simp[hx])) h2
theorem qpZ{f:Func}{s:ChangeSpec}{args:Array Value}{ds:List (DataW H)}{before:List MemPlace}{tb:TypeId}(hl:laidOutB P=true)(hv:s.vars= [])(hfn:s.fn H ds= { results:= [.lit (.bool true)],args:=ds })
  (hrt:f.resultTypes= #[tb]) (htb:P.underlying tb=some .bool) (hro: ∀t∈f.params.toList,P.readableRec t=true∧t<P.types.size)
  (hW:DataW.Whole enc P f.params.toList s.vars false W args.toList ds [] before) (hA:DataW.TrodAll enc P W 0 (fun _=>true) true f.params.toList args.toList ds before) (hb:Below W.heap.size W W'):
  s.post enc P f false true false false W args (.bool true) W':=by
 have hlt: ∀x∈before,x.block<W.heap.size:=fun x hx=>hW.lt x hx
 refine⟨ds,[],before,[],before,[],hW,?_,?_,?_,?_,fun h=>by cases h⟩
 ·rw[List.append_nil,hfn,hrt];exact⟨[],[],shut_bool htb true,rfl,rfl⟩
 ·rw[List.append_nil,hfn];exact qfy hl hb hro hlt hA
 ·rw[List.append_nil,hfn,hv];rfl
 ·exact World.keptBut_mono (fun x hx=>⟨hx,.inr (.inl hx)⟩) (hb.frame (· ∈before))
end
end AF
end
section
namespace AF
open Go
def qrf(P:Program):Nat→List Field→Option Nat
 |n,[]=>some n
 |n,f::r=>if f.offset=n then qrf P (n+P.cellsOf f.type) r else none
def qaP(P:Program):Nat→TypeId→Bool
 |0,_=>false
 |d+1,t=>match P.underlying t with
  |some .bool=>decide (P.cellsOf t=1)
  |some (.int _)=>decide (P.cellsOf t=1)
  |some .string=>decide (P.cellsOf t=1)
  |some (.slice e)=>decide (P.cellsOf t=1)&&(decide (0<P.cellsOf e)&&qaP P d e)
  |some (.struct fs)=>decide (qrf P 0 fs.toList=some (P.cellsOf t))&&fs.toList.all fun f=>qaP P d f.type
  |_=>false
def jc(P:Program):Nat→TypeId→List AV→Prop
 |0,_,_=>False
 |d+1,t,as=>match P.underlying t with
  |some .bool=> ∃b,as= [.bool b]
  |some (.int k)=> ∃n,as= [.int k n]∧(Lit.int k n).wf=true
  |some .string=> ∃s:List UInt8,as= [.str s]∧s.length≤maxLen
  |some (.slice e)=> ∃(n:Nat) (f:Nat→List AV),as= [.sl n f]∧n≤maxLen∧ ∀i,i<n→jc P d e (f i)
  |some (.struct fs)=>as.length=P.cellsOf t∧ ∀f∈fs.toList,jc P d f.type ((as.drop f.offset).take (P.cellsOf f.type))
  |_=>False
section
variable {H : Type} {enc : TypeId × Value → H} {P : Program} {w : World} {held : Bool} {ow : Nat → Prop}
structure qal (w:World) (ow:Nat→Prop) (as:List AV) (cs:List Value):Prop where
 len:cs.length=as.length
 one: ∀(i:Nat) v,cs[i]? =some v→v.oneCell'=true
 vi: ∀(i:Nat) c v,as[i]? =some c→cs[i]? =some v→VI w ow c v
theorem qal.single{a:AV}{v:Value}(h1:v.oneCell'=true)(h2:VI w ow a v):qal w ow [a] [v]:=by
 refine⟨rfl,fun i x hx=> ?_,fun i c x hc hx=> ?_⟩
 ·cases i<;>simp at hx;subst hx;exact h1
 ·cases i<;>simp at hx hc;subst hx hc;exact h2
theorem qal.append{as bs:List AV}{cs ds:List Value}(h:qal w ow as cs)(h':qal w ow bs ds):qal w ow (as++bs) (cs++ds):=by
 have hl:=h.len;refine⟨by simp[hl,h'.len],fun i v hv=> ?_,fun i c v hc hv=> ?_⟩
 ·rw[List.getElem?_append]at hv;split at hv
  ·exact h.one i v hv
  ·exact h'.one _ v hv
 ·rw[List.getElem?_append]at hc hv;split at hv
  ·rename_i hi;rw[if_pos (by omega)]at hc;exact h.vi i c v hc hv
  ·rename_i hi;rw[if_neg (by omega),←hl]at hc;exact h'.vi _ c v hc hv
theorem qf0{d fuel:Nat}(ih: ∀(t:TypeId) (cs:List Value) (dd:DataW H) (ps:List MemPlace),qaP P d t=true→DataW.trod enc P w 0 (fun _=>true) held fuel t cs=some (dd,ps)→ ∃as,jc P d t as∧as.length=P.cellsOf t∧qal w ow as cs){cs:List Value}:
  ∀(fs:List Field) (n m:Nat) (xs:List (DataW H×List MemPlace)),qrf P n fs=some m→(∀f∈fs,qaP P d f.type=true)→m≤cs.length→
   fs.mapM (fun f=>DataW.trod enc P w 0 (fun _=>true) held fuel f.type ((cs.drop f.offset).take (P.cellsOf f.type)))=some xs→
   n≤m∧ ∃as,(∀f∈fs,n≤f.offset∧jc P d f.type ((as.drop (f.offset-n)).take (P.cellsOf f.type)))∧as.length=m-n∧qal w ow as ((cs.drop n).take (m-n)):=by
 intro fs
 induction fs with
 |nil=>
  intro n m xs ht _ hm _;cases ht;exact⟨Nat.le_refl _,[],by simp,by simp,⟨by simp,by simp,by simp⟩⟩
 |cons f r ihr=>
  intro n m xs ht hk hm hx;simp only[qrf]at ht;split at ht
  ·rename_i hoff;rw[List.mapM_cons]at hx;cases ha:DataW.trod enc P w 0 (fun _=>true) held fuel f.type ((cs.drop f.offset).take (P.cellsOf f.type))with
   |none=>simp[ha]at hx
   |some y=>
    cases hl:r.mapM (fun f=>DataW.trod enc P w 0 (fun _=>true) held fuel f.type ((cs.drop f.offset).take (P.cellsOf f.type)))with
    |none=>simp[ha,hl]at hx
    |some zs=>
     obtain⟨g0,as1,g1,g2,g3⟩:=ihr (n+P.cellsOf f.type) m zs ht (fun g hg=>hk g (by simp[hg])) hm hl;obtain⟨as0,k1,k2,k3⟩:=ih f.type _ y.1 y.2 (hk f (by simp)) (by rw[ha]);rw[hoff]at k3;refine⟨by omega,as0++as1,fun g hg=> ?_,by rw[List.length_append,k2,g2];omega,?_⟩
     ·rcases List.mem_cons.1 hg with rfl|hg
      ·refine⟨by omega,?_⟩;rw[hoff,Nat.sub_self,List.drop_zero,List.take_append_of_le_length (by omega),List.take_of_length_le (by omega)];exact k1
      ·obtain⟨q1,q2⟩:=g1 g hg;refine⟨by omega,?_⟩;rw[List.drop_append,List.drop_of_length_le (by omega),List.nil_append,show g.offset-n-as0.length=g.offset-(n+P.cellsOf f.type) by omega];exact q2
     ·have e:(cs.drop n).take (m-n)=(cs.drop n).take (P.cellsOf f.type)++(cs.drop (n+P.cellsOf f.type)).take (m-(n+P.cellsOf f.type)):=by
       rw[show m-n=P.cellsOf f.type+(m-(n+P.cellsOf f.type)) by omega,List.take_add,List.drop_drop]
      rw[e];exact k3.append g3
  ·cases ht
theorem qny{a:Addr}{v:Value}(h:w.cell? a=some v): ∃b off,a=⟨b,off,none⟩∧b<w.heap.size:=by
 obtain⟨b,off,spot⟩:=a;unfold World.cell? at h;split at h
 ·rename_i c e f hb;split at h
  ·cases h
  ·rename_i hs;cases spot with
   |some _=>simp at hs
   |none=>exact⟨b,off,rfl,(Array.getElem?_eq_some_iff.1 hb).1⟩
 ·cases h
theorem qlf(how: ∀b,¬ow b): ∀(d fuel:Nat) (t:TypeId) (cs:List Value) (dd:DataW H) (ps:List MemPlace),qaP P d t=true→DataW.trod enc P w 0 (fun _=>true) held fuel t cs=some (dd,ps)→
  ∃as,jc P d t as∧as.length=P.cellsOf t∧qal w ow as cs:=by
 intro d
 induction d with
 |zero=>intro fuel t cs dd ps hk;cases hk
 |succ d ih=>
  intro fuel t cs dd ps hk h;unfold qaP at hk;unfold jc;split at hk
  ·rename_i ht;have hc:=of_decide_eq_true hk;obtain⟨b,rfl,_⟩:=DataW.trod_bool ht h;exact⟨[.bool b],⟨b,rfl⟩,hc.symm,qal.single rfl .bool⟩
  ·rename_i k ht;have hc:=of_decide_eq_true hk;obtain⟨n,rfl,_,hw⟩:=DataW.trod_int ht h;exact⟨[.int k n],⟨n,rfl,hw⟩,hc.symm,qal.single rfl .int⟩
  ·rename_i ht;have hc:=of_decide_eq_true hk;obtain⟨s,rfl,_,hw⟩:=DataW.trod_string ht h;have hsz:s.data.toList.length≤maxLen:=by rw[Array.length_toList];exact hw
   exact⟨[.str s.data.toList],⟨_,rfl,hsz⟩,hc.symm,qal.single rfl (by have:= @VI.str w ow s.data.toList;rw[Array.toArray_toList]at this;exact this)⟩
  ·rename_i e ht;simp only[Bool.and_eq_true,decide_eq_true_eq]at hk;obtain⟨hc,hpos,hk⟩:=hk;cases fuel with
   |zero=>simp[DataW.trod]at h
   |succ fuel=>
    have hcs:(cs= [.slice none 0 0])∨ ∃a len cap,cs= [.slice (some a) len cap]:=by
     unfold DataW.trod at h;rw[ht]at h;split at h<;>first|(rename_i g _;cases g;done)|skip
     all_goals first|(rename_i g;cases g;done)|skip
     all_goals first|exact .inl rfl|exact .inr ⟨_,_,_,rfl⟩|(cases h;done)
    rcases hcs with rfl|⟨a,len,cap,rfl⟩
    ·exact⟨[.sl 0 fun _=> []],⟨0,fun _=> [],rfl,Nat.zero_le _,fun i hi=>absurd hi (Nat.not_lt_zero _)⟩,hc.symm,qal.single rfl .nilsl⟩
    ·simp only[DataW.trod,ht]at h;split at h
     ·rename_i hcc;obtain⟨_,c1,c2⟩:=hcc;rw[Option.bind_eq_some_iff]at h;obtain⟨elems,hm,hrest⟩:=h;rw[Option.map_eq_some_iff]at hrest;obtain⟨rest,hrest,_⟩:=hrest
      try simp only[if_true]at hrest
      obtain⟨m1,m2⟩:=jW hm;obtain⟨r1,r2⟩:=jW hrest;simp only[List.length_range]at m1 r1;have all: ∀i,i<cap→ ∃x,((w.cells? 0 (a.add (i*P.cellsOf e)) (P.cellsOf e)).bind (DataW.trod enc P w 0 (fun _=>true) held fuel e))=some x:=by
       intro i hi
       by_cases hl:i<len
       ·exact⟨_,m2 i i _ (by simp[hl]) (List.getElem?_eq_getElem (by omega))⟩
       ·have:=r2 (i-len) (i-len) _ (by rw[List.getElem?_range (by omega)]) (List.getElem?_eq_getElem (by omega))
        rw[show len+(i-len)=i by omega]at this;exact⟨_,this⟩
      by_cases hcap:cap=0
      ·subst hcap
       have:len=0:=by omega
       subst this;exact⟨[.sl 0 fun _=> []],⟨0,fun _=> [],rfl,Nat.zero_le _,fun i hi=>absurd hi (Nat.not_lt_zero _)⟩,hc.symm,qal.single rfl .nilsl⟩
      ·obtain⟨x0,h0⟩:=all 0 (by omega);rw[Option.bind_eq_some_iff]at h0;obtain⟨cs0,h0,_⟩:=h0;rw[Nat.zero_mul]at h0;have hadd0:a.add 0=a:=by simp[Addr.add]
       rw[hadd0]at h0;unfold World.cells? at h0;rw[if_pos (Nat.zero_le _)]at h0;obtain⟨n1,n2⟩:=jW h0;simp only[List.length_range]at n1;have hcell:=n2 0 0 _ (by simp[hpos]) (List.getElem?_eq_getElem (show 0<cs0.length by omega));rw[hadd0]at hcell;obtain⟨b,off,rfl,hlt⟩:=qny hcell;have hadd: ∀n,(⟨b,off,none⟩:Addr).add n=⟨b,off+n,none⟩:=by
        intro n;unfold Addr.add;split
        ·rename_i h;subst h;rfl
        ·rfl
       have hadd2: ∀n m,(⟨b,off+n,none⟩:Addr).add m=⟨b,off+n+m,none⟩:=by
        intro n m;unfold Addr.add;split
        ·rename_i h;subst h;rfl
        ·rfl
       have key: ∀i,i<len→ ∃(as:List AV) (cs:List Value),jc P d e as∧as.length=P.cellsOf e∧qal w ow as cs∧(∀(j:Nat) v,cs[j]? =some v→w.cell? ⟨b,off+i*P.cellsOf e+j,none⟩=some v):=by
        intro i hi;obtain⟨x,hx⟩:=all i (by omega);rw[Option.bind_eq_some_iff]at hx;obtain⟨cs,h3,h4⟩:=hx;obtain⟨as,f1,f2,f3⟩:=ih fuel e cs x.1 x.2 hk h4;rw[hadd]at h3;unfold World.cells? at h3;rw[if_pos (Nat.zero_le _)]at h3;obtain⟨n1,n2⟩:=jW h3;simp only[List.length_range]at n1;refine⟨as,cs,f1,f2,f3,fun j v hj=> ?_⟩;have hjl:j<P.cellsOf e:=by have:=(List.getElem?_eq_some_iff.1 hj).1;omega
        have:=n2 j j v (by simp[hjl]) hj
        rw[hadd2]at this;exact this
       have ex: ∃g:Nat→List AV×List Value,∀i,i<len→jc P d e (g i).1∧(g i).1.length=P.cellsOf e∧qal w ow (g i).1 (g i).2∧(∀(j:Nat) v,(g i).2[j]? =some v→w.cell? ⟨b,off+i*P.cellsOf e+j,none⟩=some v):=by
        refine⟨fun i=>if hi:i<len then ((key i hi).choose,(key i hi).choose_spec.choose) else ([],[]),fun i hi=> ?_⟩;simp only[dif_pos hi];exact (key i hi).choose_spec.choose_spec
       obtain⟨g,hg⟩:=ex;refine⟨[.sl len fun i=>(g i).1],⟨len,fun i=>(g i).1,rfl,Nat.le_trans c1 c2,fun i hi=>(hg i hi).1⟩,hc.symm,qal.single rfl (.sl (P.cellsOf e) b off cap (fun i j=>(g i).2.getD j Go.undef) c1 c2 (fun _=>how b) hlt (fun i hi=>(hg i hi).2.1) (fun i j hi hj=> ?_) (fun i j hi hj=> ?_) (fun i j c hi hc=> ?_))⟩
       ·obtain⟨_,q2,q3,q4⟩:=hg i hi;have hl:=q3.len;have e:(g i).2[j]? =some (g i).2[j]:=List.getElem?_eq_getElem (by omega);rw[q4 j _ e,List.getD_eq_getElem?_getD,e];rfl
       ·obtain⟨_,q2,q3,q4⟩:=hg i hi;have hl:=q3.len;have e:(g i).2[j]? =some (g i).2[j]:=List.getElem?_eq_getElem (by omega);rw[List.getD_eq_getElem?_getD,e];exact q3.one j _ e
       ·obtain⟨_,q2,q3,q4⟩:=hg i hi;have hl:=q3.len;have hj:=(List.getElem?_eq_some_iff.1 hc).1;have e:(g i).2[j]? =some (g i).2[j]:=List.getElem?_eq_getElem (by omega);rw[List.getD_eq_getElem?_getD,e];exact q3.vi j c _ hc e
     ·cases h
  ·rename_i fs ht;simp only[Bool.and_eq_true,decide_eq_true_eq,List.all_eq_true]at hk;obtain⟨htile,hk⟩:=hk;cases fuel with
   |zero=>simp[DataW.trod]at h
   |succ fuel=>
    simp only[DataW.trod,ht]at h;split at h
    ·rename_i hcl;rw[Option.map_eq_some_iff]at h;obtain⟨xs,hm,_⟩:=h;obtain⟨_,as,g1,g2,g3⟩:=qf0 (fun t cs dd ps=>ih fuel t cs dd ps) fs.toList 0 (P.cellsOf t) xs htile hk (by omega) hm;rw[Nat.sub_zero]at g2 g3;rw[List.drop_zero,List.take_of_length_le (by omega)]at g3;exact⟨as,⟨g2,fun f hf=>by have:=(g1 f hf).2;rwa [Nat.sub_zero]at this⟩,g2,g3⟩
    ·cases h
  ·cases hk
theorem qef(how: ∀b,¬ow b){d:Nat}{t:TypeId}{v:Value}{dd:DataW H}{ps:List MemPlace}(hk:qaP P d t=true)(hc:v.cells= #[v])(h:DataW.Trod enc P w 0 (fun _=>true) held t v dd ps): ∃a,jc P d t [a]∧VI w ow a v:=by
 obtain⟨fuel,h⟩:=h;rw[hc]at h;obtain⟨as,g1,g2,g3⟩:=qlf how d fuel t _ dd ps hk h;have hl:=g3.len
 match as,g1,g2,g3,hl with
 | [a],g1,g2,g3,_=>exact⟨a,g1,g3.vi 0 a v rfl rfl⟩
end
end AF
end
section
namespace AF
open Go
def zP(v:Nat)(ty:TypeId)(cs:List AV):AObj:=if cs= [] then .emp v else .mem v ty cs
section
variable {h l : List AObj} {k v w n c : Nat} {ty : TypeId} {cs ms : List AV} {a : AV} {o : AObj}
theorem jJ(h:cs≠ []):zP v ty cs= .mem v ty cs:=if_neg h
theorem verOf_own:qr (some (zP v ty cs))=v:=by unfold zP;split<;>rfl
theorem site_own0:qC (zP v ty cs::l) 0=true:=by unfold zP;split<;>rfl
theorem liveS_own0:zR (zP v ty cs::l) 0 w=(v==w):=by unfold zP;split<;>rfl
theorem tyOk_own:qrh (some (zP v ty cs)) ty=true:=by
 unfold zP;split
 ·rfl
 ·simp[qrh]
theorem cells_own0:((cellsOf (zP v ty cs::l) 0 v).getD [])=cs:=by
 unfold zP;split
 ·rename_i e;rw[e];rfl
 ·rw[cellsOf_0,if_pos rfl];rfl
theorem cellsS_own0:((cellsOf (zP v ty cs::l) 0 v).isSome=true)=(cs≠ []):=by
 unfold zP;split
 ·rename_i e;rw[e];simp[cellsOf,qA]
 ·rename_i e;rw[cellsOf_0,if_pos rfl];simp[e]
theorem qoy{b:AV}:qjz (some (zP v ty cs)) ty w c (n+1) (b::ms)=zP (w+1) ty (cs.take c++b::ms):=by
 rw[show zP (w+1) ty (cs.take c++b::ms)= .mem (w+1) ty (cs.take c++b::ms)from jJ (by simp)];unfold zP;split
 ·rename_i e;rw[e];simp[qjz]
 ·rfl
theorem appO_own1{b:AV}:qjz (some (zP v ty cs)) ty w c 1 (b::ms)=zP (w+1) ty (cs.take c++b::ms):=qoy (n:=0)
end
attribute [go_sem] verOf_own site_own0 liveS_own0 tyOk_own cells_own0 cellsS_own0 appO_own1
end AF
end
section
namespace AF
open Go
def LowI(h hh:List AObj):Prop:=hh.length=h.length∧ ∀o∈hh,o∈h∨(lowO h.length o∧lowO (h.length+1) o)
theorem LowI.refl(h:List AObj):LowI h h:=⟨rfl,fun _ ho=> .inl ho⟩
theorem kz{hh tl:List AObj}{o:AObj}{k:Nat}(h:hh.length=k):qA k (hh++o::tl)=some o:=by subst h;exact getO_app0
theorem qb0{hh tl:List AObj}{o o':AObj}{k:Nat}(h:hh.length=k):setO k (hh++o::tl) o'=hh++o'::tl:=by subst h;exact setO_app0
def qwq(P:Program)(f:FuncId)(cap:List AV)(xs:List (List AV)):Prop:=
 ∀(h:List AObj) (ts:List AV) (L:LInfo) (S:Nat→List AObj→Prop) (E:LS→List AObj→Prop),
  (∀i hh,S i hh→LowI h hh)→(∀s hh,E s hh→LowI h hh)→
  (∀i hh tl,(hi:i<xs.length)→S i hh→ku P h.length (xs[i]) (hh++ .lp .ready ts L::tl) (fun r h'=> ∃hh',(r= .bool true∧S (i+1) hh'∧h'=hh'++ .lp .ready ts L::tl)∨(∃s,r= .bool false∧E s hh'∧h'=hh'++ .lp s ts L::tl)))→
  S 0 h→(∀c∈ts,lowV (h.length+1) c=true)→
  jD P f (.yld h.length::cap) (h++ [.lp .ready ts L]) (fun _ h'=> ∃hh,(S xs.length hh∧h'=hh++ [.lp .ready ts L])∨ ∃s,E s hh∧h'=hh++ [.lp s ts L])
theorem qiI{P:Program}{f:FuncId}{cap:List AV}{xs:List (List AV)}(hf:qwq P f cap xs){ps:List Nat}{b:Nat}{x y:C}{Q:Ex→Nx}{ts:List AV}{h:List AObj}(hps: ∀a∈xs,a.length=ps.length)
  (S:Nat→List AObj→Prop) (E:Ex→List AObj→Prop) (hS: ∀i hh,S i hh→LowI h hh) (hE: ∀s hh,E s hh→LowI h hh)
  (start:S 0 h) (hts: ∀c∈ts,lowV (h.length+1) c=true)
  (body: ∀i hh tl L,(hi:i<xs.length)→S i hh→hh.length=h.length→
   qY P b x (fun e t2 h2=>e= .normal∧h2=hh++ .lp .ready ts L::tl∧
    qY P b y (fun e t3 h3=> ∃hh',h3=hh'++ .lp .busy ts L::tl∧hh'.length=h.length∧match e with
     | .normal=>S (i+1) hh'
     | .ret=>E .ret hh'
     | .exit id=>E (.exit id) hh') t2 (hh++ .lp .busy ts L::tl)) (qb8 ts ps (xs[i])) (hh++ .lp .ready ts L::tl))
  (done: ∀hh,S xs.length hh→Q .normal ts hh) (doneE: ∀e hh,E e hh→match e with
   | .normal=>False
   |e=>Q e ts hh):
  qfg P (.fn (.func f) [] cap) ps (qY P b x) (qY P b y) Q ts h:=by
 intro L hy;show jD _ _ _ _ _;have key:=hf h ts L S (fun s hh=>match s with
  | .ret=>E .ret hh
  | .exit id=>E (.exit id) hh
  |_=>False) hS
  (by
   intro s hh hs;cases s with
   |ret=>exact hE _ _ hs
   |exit id=>exact hE _ _ hs
   |ready=>exact hs.elim
   |busy=>exact hs.elim)
  (by
   intro i hh tl hi i4;have hlen:=(hS _ _ i4).1;refine hy h.length ts _ _ _ (kz hlen) (hps _ (List.getElem_mem hi)) ?_;have hb:=body i hh tl L hi i4 hlen;refine qaA ?_ hb;rintro e t2 h2 ⟨rfl,rfl,h3⟩;refine⟨rfl,⟨ts,kz hlen⟩,fun ts' hts'=> ?_⟩;rw[kz hlen]at hts';cases hts';rw[qb0 hlen];refine qaA ?_ h3;rintro e t3 h3' ⟨hh',rfl,g1,g2⟩;refine⟨ts,kz g1,?_⟩;cases e with
   |normal=>exact⟨hh',.inl ⟨rfl,g2,qb0 g1⟩⟩
   |ret=>exact⟨hh',.inr ⟨.ret,rfl,g2,qb0 g1⟩⟩
   |exit id=>exact⟨hh',.inr ⟨.exit id,rfl,g2,qb0 g1⟩⟩)
  start hts
 refine key.le (qaX.refl _) ?_;rintro v h' ⟨hh,⟨g1,rfl⟩|⟨s,g1,rfl⟩⟩
 ·have hl:=hS _ _ g1;exact⟨v,VLe.refl _,hh,.ready,ts,L,rfl,hl.1,fun o ho=>(hl.2 o ho).imp (fun h=>h) And.left,done hh g1⟩
 ·cases s with
  |ready=>exact g1.elim
  |busy=>exact g1.elim
  |ret=>
   have hl:=hE _ _ g1;exact⟨v,VLe.refl _,hh,.ret,ts,L,rfl,hl.1,fun o ho=>(hl.2 o ho).imp (fun h=>h) And.left,doneE _ _ g1⟩
  |exit id=>
   have hl:=hE _ _ g1;exact⟨v,VLe.refl _,hh,.exit id,ts,L,rfl,hl.1,fun o ho=>(hl.2 o ho).imp (fun h=>h) And.left,doneE _ _ g1⟩
theorem qhf{rs:List RV}{h0 h':List AObj}{K:AV→List AObj→Prop}{t:List AV}{r:AV}(hok:jY t h' rs)(hl:h'.length=h0.length)(hlow: ∀o∈h',o∈h0∨lowO h0.length o)(hK:K r h')
  (hv:VLe (frz (fun k=>decide (h0.length≤k)) h' 8 (qgh (zM t h' rs))) r):fnQ rs h0 K .ret t h':=
 ⟨r,h',hK,hok,⟨[],(List.append_nil _).symm⟩,hl,hlow,VOut.of 8 hv⟩
theorem ky{rs:List RV}{h0 h':List AObj}{K:AV→List AObj→Prop}{t:List AV}{r:AV}(hok:jY t h' rs)(hl:h'.length=h0.length)(hlow: ∀o∈h',o∈h0∨lowO h0.length o)(hK:K r h')
  (hv:VLe (frz (fun k=>decide (h0.length≤k)) h' 8 (qgh (zM t h' rs))) r):fnQ rs h0 K .normal t h':=
 ⟨r,h',hK,hok,⟨[],(List.append_nil _).symm⟩,hl,hlow,VOut.of 8 hv⟩
end AF
end
section
namespace AF
open Go
section
variable {P : Program} {b : Nat} {r : List RO} {K : Nx} {t : List AV} {h : List AObj} {xs : List X}
theorem qC8{d:Option Nat}:qF P b (⟨d,none,.s2b,xs⟩::r) K t h=(flags (evs t xs)∧jq b h .s2b (strips (evs t xs)) t d (qF P b r K)):=by simp only[qF,qJ,zC,R.kd]
theorem qB8{nx:List AV→List AObj→Prop}{d:Option Nat}{s:List UInt8}:jq b h .s2b [.str s] t d nx=((s.length:Int)≤140737488355328∧nx (qV t d (.sl s.length fun i=> [.int .u8 ((s.getD i 0).toNat:Int)])) h):=(rfl)
end
theorem valL_b2s_nl{g:List AObj}:valL g .b2s [.nl]= .str []:=rfl
theorem qiD{g:List AObj}:okL g .b2s [.nl]=True:=rfl
theorem qfz{g:List AObj}{k v z p n:Nat}:valL g .b2s [.osl k v z p n]= .str (((((cellsOf g k v).getD []).drop p).take n).map qcz):=rfl
theorem qge{g:List AObj}{k v z p n:Nat}:okL g .b2s [.osl k v z p n]=(zR g k v=true∧z=1∧p+n≤((cellsOf g k v).getD []).length∧ ∀c∈((((cellsOf g k v).getD []).drop p).take n),qe5 c):=rfl
theorem qu0{x:AV}{q:Bool}:jK (.bool false) x (.bool q)= .bool q:=by
 unfold jK;simp only[AV.strip,qa3];split
 ·rename_i p' q' h1 h2;cases h2;simp
 ·simp
theorem qu1{y:AV}{p:Bool}:jK (.bool true) (.bool p) y= .bool p:=by
 unfold jK;simp only[AV.strip,qa3];split
 ·rename_i p' q' h1 h2;cases h1;simp
 ·simp
attribute [go_sem] qu0 qu1
theorem qw{P:Program}{f:Nat}{first cap args:List AV}{d:Option Nat}{nx:Nx}{t:List AV}{h:List AObj}{v:AV}(hc:ACalls P f (first++args++cap) h v h)(hn:nx (qV t d v) h):qb3 P (.fn (.func f) first cap::args) d nx t h:=⟨v,h,hc,hn⟩
attribute [go_sem] qC8 qB8 valL_b2s_nl qiD qfz qge
end AF
end
section
namespace AF
open Go
section
variable {P : Program} {b : Nat} {r : List RO} {K : Nx} {t : List AV} {h : List AObj} {xs : List X}
end
theorem valL_capnl{g:List AObj}:valL g .cap [.nl]= .int .i64 0:=rfl
theorem qmm{g:List AObj}:okL g .cap [.nl]=True:=rfl
theorem qjt{g:List AObj}{z:Nat}{lo hi:Bool}{bs:List AV}:valL g (.slc z lo hi) (.nl::bs)= .nl:=rfl
attribute [go_sem] valL_capnl qmm qjt
end AF
end
section
namespace AF
open Go
section
variable {P : Program} {b : Nat} {K : Nx} {t : List AV} {h : List AObj}
theorem t_nil:qc7 P b .nil K t h=K t h:=(rfl)
theorem t_one{o:RO}{r:DT}:qc7 P b (.one o r) K t h=qF P b [o] (qc7 P b r K) t h:=(rfl)
theorem t_two{x y:DT}:qc7 P b (.two x y) K t h=(qc7 P b x K t h∧qc7 P b y K t h):=(rfl)
theorem qtW{d:DT}{Q:Ex→Nx}(T:List AV)(H:List AObj)(h1:qc7 P b d (fun t' h'=>t'=T∧h'=H) t h)(h2:Q .normal T H):qY P b (.draw d) Q t h:=
 ⟨_,h1,fun t' h' ⟨e1,e2⟩=>by subst e1;subst e2;exact h2⟩
theorem qoU{f:Nat}{vs:List AV}{d:Option Nat}{nx:Nx}{r:AV}(hc: ∀h0,ACalls P f (strips vs) h0 r h0)(hf:flags vs)(hn:nx (qV t d r) h):qtA P f vs d nx t h:=⟨hf,r,hc,hn⟩
end
attribute [go_sem] t_nil t_one t_two
end AF
end
section
namespace AF
open Go
section
variable {P : Program} {b : Nat} {r : List RO} {K : Nx} {t : List AV} {h l : List AObj} {xs : List X} {ks : AK} {ok : Bool} {z : AV} {d : Option Nat} {nx : List AV → List AObj → Prop}
theorem w_clr{sz:Nat}{zs:List AV}:qF P b (⟨d,none,.clr sz zs,xs⟩::r) K t h=(flags (evs t xs)∧jq b h (.clr sz zs) (strips (evs t xs)) t d (qF P b r K)):=by simp only[qF,qJ,zC,R.kd]
theorem e_clr{sz sz' k ver off m:Nat}{zs:List AV}:jq b h (.clr sz zs) [.osl k ver sz' off m] t d nx=((zR h k ver=true∧(cellsOf h k ver).isSome=true∧zs.length=sz∧sz'=sz∧off+m*sz≤((cellsOf h k ver).getD []).length)∧
  nx (qV t d (.tup [])) (setO k h (.mem ver (qsC (qA k h)) (((cellsOf h k ver).getD []).take off++qS zs m++((cellsOf h k ver).getD []).drop (off+m*sz))))):=(rfl)
end
section
variable {h l : List AObj} {ks : AK} {ok : Bool} {z x : AV} {k ver n v w : Nat} {es : List (AV × AV)} {o : AObj}
theorem valL_mlk_t:valL h (.mlk ks true z) [.mp k ver,x]= .tup [(qgb ks x z ((jn h k ver).getD [])).1,.bool (qgb ks x z ((jn h k ver).getD [])).2]:=rfl
theorem valL_mlk_f:valL h (.mlk ks false z) [.mp k ver,x]=(qgb ks x z ((jn h k ver).getD [])).1:=rfl
theorem okL_mlk:okL h (.mlk ks ok z) [.mp k ver,x]=((jn h k ver).isSome=true∧okK ks x∧(qb7 ks x ((jn h k ver).getD []) 0).isSome=true):=rfl
theorem mapOf_0:jn (.map w es::l) 0 v=if w=v then some es else none:=rfl
theorem mapOf_s:jn (o::l) (n+1) v=jn l n v:=rfl
theorem site_0_map:qC (.map v es::l) 0=true:=rfl
theorem verOf_map:qr (some (.map v es))=v:=rfl
theorem strip_mp:(AV.mp k v).strip=AV.mp k v:=rfl
theorem flag_mp:(AV.mp k v).flag=true:=rfl
theorem solid_mp:(AV.mp k v).solid=true:=rfl
theorem cells_mp:(AV.mp k v).cells= [AV.mp k v]:=rfl
theorem okK_str{s:List UInt8}:okK .str (.str s)=True:=rfl
theorem okK_int{q:IntKind}{i:Int}:okK .int (.int q i)=True:=rfl
theorem okK_bool{q:Bool}:okK .bool (.bool q)=True:=rfl
theorem frz_mp{fz:Nat→Bool}:frz fz h (n+1) (.mp k v)=if fz k then .undef else .mp k v:=rfl
end
attribute [go_sem] w_clr e_clr valL_mlk_t valL_mlk_f okL_mlk mapOf_0 mapOf_s site_0_map verOf_map strip_mp flag_mp solid_mp cells_mp okK_str okK_int okK_bool frz_mp
section
variable {P : Program} {b : Nat} {r : List RO} {K : Nx} {t : List AV} {h : List AObj} {xs : List X} {d : Nat}
theorem qBd{z:Nat}:qF P b (⟨some d,none,.idxI z,xs⟩::r) K t h=(flags (evs t xs)∧okP (.idxI z) (strips (evs t xs))∧qF P b r K (zQ d t (valP (.idxI z) (strips (evs t xs)))) h):=by simp only[qF,qJ,zC,R.kd,qV]
theorem qBb{z:Nat}:qF P b (⟨some d,none,.fldI z,xs⟩::r) K t h=(flags (evs t xs)∧okP (.fldI z) (strips (evs t xs))∧qF P b r K (zQ d t (valP (.fldI z) (strips (evs t xs)))) h):=by simp only[qF,qJ,zC,R.kd,qV]
theorem qvO{z:Option Nat}:qF P b (⟨some d,none,.loadI z,xs⟩::r) K t h=(flags (evs t xs)∧okP (.loadI z) (strips (evs t xs))∧qF P b r K (zQ d t (valP (.loadI z) (strips (evs t xs)))) h):=by simp only[qF,qJ,zC,R.kd,qV]
end
theorem valP_idxI{z n:Nat}{f:Nat→List AV}{k:IntKind}{i:Int}:valP (.idxI z) [.sl n f,.int k i]= .ip (f i.toNat):=rfl
theorem qqj{z n:Nat}{f:Nat→List AV}{k:IntKind}{i:Int}:okP (.idxI z) [.sl n f,.int k i]=((0≤i∧i<n)∧(f i.toNat).length=z):=rfl
theorem qn6{z:Nat}{cs:List AV}:valP (.fldI z) [.ip cs]= .ip (cs.drop z):=rfl
theorem qqi{z:Nat}{cs:List AV}:okP (.fldI z) [.ip cs]=(z<cs.length):=rfl
theorem qjw{z:Option Nat}{cs:List AV}:valP (.loadI z) [.ip cs]=cut cs 0 z:=rfl
theorem qmu{z:Option Nat}{cs:List AV}:okP (.loadI z) [.ip cs]=ji cs 0 z:=rfl
attribute [go_sem] qBd qBb qvO valP_idxI qqj qn6 qqi qjw qmu
end AF
end
theorem gdqA{α:Type _}{l:List α}{i:Nat}{a:α}:l.getD i a=l[i]?.getD a:=List.getD_eq_getElem?_getD
theorem zp{α:Type _}{l:List α}{i:Nat}(h:i<l.length):l[i]? =some l[i]:=List.getElem?_eq_getElem h
theorem qk{v:AF.AV}:AF.VLe v v:=AF.VLe.refl v
theorem aiA{p q:Prop}(h1:p)(h2:q):p∧q:=⟨h1,h2⟩
theorem eqt{p : Prop}(h : p) : p = True := eq_true h
theorem eqf{p : Prop}(h : ¬p) : p = False := eq_false h
theorem dqt{p : Prop}[Decidable p](h : p) : decide p = true := decide_eq_true h
theorem dqf{p : Prop}[Decidable p](h : ¬p) : decide p = false := decide_eq_false h
theorem ipo{c : Prop}{h : Decidable c}(hc : c){α : Sort _}{t e : α} : ite c t e = t := if_pos hc
theorem ine{c : Prop}{h : Decidable c}(hc : ¬c){α : Sort _}{t e : α} : ite c t e = e := if_neg hc
theorem nzl(n : Nat) : 0 ≤ n := Nat.zero_le n
theorem nlr(n : Nat) : n ≤ n := Nat.le_refl n
theorem nnz(n : Nat) : ¬n < 0 := Nat.not_lt_zero n
theorem lap{α : Type _}{as bs : List α} : (as ++ bs).length = as.length + bs.length := List.length_append
theorem lnl{α : Type _} : ([] : List α).length = 0 := rfl
theorem lco{α : Type _}{a : α}{as : List α} : (a :: as).length = as.length + 1 := rfl
theorem lan{α : Type _}(as : List α) : as ++ [] = as := List.append_nil as
theorem lna{α : Type _}(as : List α) : [] ++ as = as := rfl
theorem lca{α : Type _}{a : α}{as bs : List α} : (a :: as) ++ bs = a :: (as ++ bs) := rfl
theorem itn(n : Nat) : ((n : Int)).toNat = n := rfl
theorem lgs{α : Type _}{a : α}{i : Nat}{l : List α} : l[i]? = some a ↔ ∃ h : i < l.length, l[i] = a := List.getElem?_eq_some_iff
theorem ltl{α : Type _}{i : Nat}{l : List α}(h : l.length ≤ i) : l.take i = l := List.take_of_length_le h
theorem om{p : Prop}(h : p := by omega) : p := h
