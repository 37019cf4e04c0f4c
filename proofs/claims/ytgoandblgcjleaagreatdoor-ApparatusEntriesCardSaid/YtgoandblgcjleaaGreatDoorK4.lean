import Derived.Test.YtgoandblgcjleaaGreatDoorK2
import Derived.Test.YtgoandblgcjleaaGreatDoorK3
import Derived.Below
import Derived.ChangeSame
import Derived.ChangeShapes
import Derived.CallsIn
import Derived.Carry
import Derived.RowKit
import Derived.WalkKit
import Derived.ProofKit
set_option linter.all false
set_option linter.unusedSimpArgs false
set_option linter.unusedVariables false
set_option linter.unusedSectionVars false
section
namespace AF
open Go
set_option maxRecDepth 4000
def qvc(k:IntKind)(a c:Int):Int:=k.wrap (a*2^(min c.toNat k.bits))
def qum(k:IntKind)(a c:Int):Int:=a.fdiv (2^(min c.toNat k.bits))
def qnA(k:IntKind)(a c:Int):Int:=k.wrap (BitVec.ofInt k.bits a&&&BitVec.ofInt k.bits c).toNat
def orK(k:IntKind)(a c:Int):Int:=k.wrap (BitVec.ofInt k.bits a|||BitVec.ofInt k.bits c).toNat
def qDQ(k:IntKind)(a c:Int):Int:=k.wrap (BitVec.ofInt k.bits a^^^BitVec.ofInt k.bits c).toNat
def qfh(k:IntKind)(a c:Int):Int:=k.wrap (BitVec.ofInt k.bits a&&& ~~~ BitVec.ofInt k.bits c).toNat
theorem qyc{a0:AV}{r:List AV}:zh 0 (a0::r)=a0:=rfl
theorem qyS{a0 v:AV}{r:List AV}:ja 0 (a0::r) v=v::r:=rfl
theorem qyd{a0 a1:AV}{r:List AV}:zh 1 (a0::a1::r)=a1:=rfl
theorem qyT{a0 a1 v:AV}{r:List AV}:ja 1 (a0::a1::r) v=a0::v::r:=rfl
theorem qye{a0 a1 a2:AV}{r:List AV}:zh 2 (a0::a1::a2::r)=a2:=rfl
theorem qyU{a0 a1 a2 v:AV}{r:List AV}:ja 2 (a0::a1::a2::r) v=a0::a1::v::r:=rfl
theorem qyf{a0 a1 a2 a3:AV}{r:List AV}:zh 3 (a0::a1::a2::a3::r)=a3:=rfl
theorem qyV{a0 a1 a2 a3 v:AV}{r:List AV}:ja 3 (a0::a1::a2::a3::r) v=a0::a1::a2::v::r:=rfl
theorem qyg{a0 a1 a2 a3 a4:AV}{r:List AV}:zh 4 (a0::a1::a2::a3::a4::r)=a4:=rfl
theorem qyW{a0 a1 a2 a3 a4 v:AV}{r:List AV}:ja 4 (a0::a1::a2::a3::a4::r) v=a0::a1::a2::a3::v::r:=rfl
theorem qyh{a0 a1 a2 a3 a4 a5:AV}{r:List AV}:zh 5 (a0::a1::a2::a3::a4::a5::r)=a5:=rfl
theorem qyX{a0 a1 a2 a3 a4 a5 v:AV}{r:List AV}:ja 5 (a0::a1::a2::a3::a4::a5::r) v=a0::a1::a2::a3::a4::v::r:=rfl
theorem qyi{a0 a1 a2 a3 a4 a5 a6:AV}{r:List AV}:zh 6 (a0::a1::a2::a3::a4::a5::a6::r)=a6:=rfl
theorem qyY{a0 a1 a2 a3 a4 a5 a6 v:AV}{r:List AV}:ja 6 (a0::a1::a2::a3::a4::a5::a6::r) v=a0::a1::a2::a3::a4::a5::v::r:=rfl
theorem qyj{a0 a1 a2 a3 a4 a5 a6 a7:AV}{r:List AV}:zh 7 (a0::a1::a2::a3::a4::a5::a6::a7::r)=a7:=rfl
theorem qyZ{a0 a1 a2 a3 a4 a5 a6 a7 v:AV}{r:List AV}:ja 7 (a0::a1::a2::a3::a4::a5::a6::a7::r) v=a0::a1::a2::a3::a4::a5::a6::v::r:=rfl
theorem qtq{n:Nat}{a0 a1 a2 a3 a4 a5 a6 a7:AV}{r:List AV}:zh (n+8) (a0::a1::a2::a3::a4::a5::a6::a7::r)=zh n r:=rfl
theorem qui{n:Nat}{a0 a1 a2 a3 a4 a5 a6 a7 v:AV}{r:List AV}:ja (n+8) (a0::a1::a2::a3::a4::a5::a6::a7::r) v=a0::a1::a2::a3::a4::a5::a6::a7::ja n r v:=rfl
theorem qoP{n:Nat}{a0 a1 a2 a3 a4 a5 a6 a7 a8 a9 a10 a11 a12 a13 a14 a15 a16 a17 a18 a19 a20 a21 a22 a23 a24 a25 a26 a27 a28 a29 a30 a31:AV}{r:List AV}:zh (n+32) (a0::a1::a2::a3::a4::a5::a6::a7::a8::a9::a10::a11::a12::a13::a14::a15::a16::a17::a18::a19::a20::a21::a22::a23::a24::a25::a26::a27::a28::a29::a30::a31::r)=zh n r:=rfl
theorem qpK{n:Nat}{a0 a1 a2 a3 a4 a5 a6 a7 a8 a9 a10 a11 a12 a13 a14 a15 a16 a17 a18 a19 a20 a21 a22 a23 a24 a25 a26 a27 a28 a29 a30 a31 v:AV}{r:List AV}:ja (n+32) (a0::a1::a2::a3::a4::a5::a6::a7::a8::a9::a10::a11::a12::a13::a14::a15::a16::a17::a18::a19::a20::a21::a22::a23::a24::a25::a26::a27::a28::a29::a30::a31::r) v=a0::a1::a2::a3::a4::a5::a6::a7::a8::a9::a10::a11::a12::a13::a14::a15::a16::a17::a18::a19::a20::a21::a22::a23::a24::a25::a26::a27::a28::a29::a30::a31::ja n r v:=rfl
theorem qCR{t:List AV}{n:Nat}:ev t (.t n)=zh n t:=rfl
theorem qCQ{t:List AV}{v:AV}:ev t (.c v)=v:=rfl
theorem qiA{b:Bool}:(AV.bool b).strip=(AV.bool b):=rfl
theorem qkW{b:Bool}:(AV.bool b).flag=true:=rfl
theorem qik{b:Bool}:(AV.bool b).solid=true:=rfl
theorem qhv{b:Bool}:(AV.bool b).cells= [(AV.bool b)]:=rfl
theorem qmU{k:IntKind}{n:Int}:(AV.int k n).strip=(AV.int k n):=rfl
theorem qoy{k:IntKind}{n:Int}:(AV.int k n).flag=true:=rfl
theorem qmC{k:IntKind}{n:Int}:(AV.int k n).solid=true:=rfl
theorem qkn{k:IntKind}{n:Int}:(AV.int k n).cells= [(AV.int k n)]:=rfl
theorem qmY{s:List UInt8}:(AV.str s).strip=(AV.str s):=rfl
theorem qoC{s:List UInt8}:(AV.str s).flag=true:=rfl
theorem qmG{s:List UInt8}:(AV.str s).solid=true:=rfl
theorem qkr{s:List UInt8}:(AV.str s).cells= [(AV.str s)]:=rfl
theorem qp7{n:Nat}{f:Nat→List AV}:(AV.sl n f).strip=(AV.sl n f):=rfl
theorem qtd{n:Nat}{f:Nat→List AV}:(AV.sl n f).flag=true:=rfl
theorem qpV{n:Nat}{f:Nat→List AV}:(AV.sl n f).solid=true:=rfl
theorem qn9{n:Nat}{f:Nat→List AV}:(AV.sl n f).cells= [(AV.sl n f)]:=rfl
theorem qmW{k v s p l:Nat}:(AV.osl k v s p l).strip=(AV.osl k v s p l):=rfl
theorem qoA{k v s p l:Nat}:(AV.osl k v s p l).flag=true:=rfl
theorem qmE{k v s p l:Nat}:(AV.osl k v s p l).solid=true:=rfl
theorem qkp{k v s p l:Nat}:(AV.osl k v s p l).cells= [(AV.osl k v s p l)]:=rfl
theorem qmS{c:List AV}:(AV.agg c).strip=(AV.agg c):=rfl
theorem qow{c:List AV}:(AV.agg c).flag=true:=rfl
theorem qmA{c:List AV}:(AV.agg c).solid=true:=rfl
theorem qmZ{c:List AV}:(AV.tup c).strip=(AV.tup c):=rfl
theorem qoD{c:List AV}:(AV.tup c).flag=true:=rfl
theorem qks{c:List AV}:(AV.tup c).cells= [(AV.tup c)]:=rfl
theorem qp4{c:List AV}:(AV.ip c).strip=(AV.ip c):=rfl
theorem qta{c:List AV}:(AV.ip c).flag=true:=rfl
theorem qpS{c:List AV}:(AV.ip c).solid=true:=rfl
theorem qn6{c:List AV}:(AV.ip c).cells= [(AV.ip c)]:=rfl
theorem qp6{k v p:Nat}:(AV.op k v p).strip=(AV.op k v p):=rfl
theorem qtc{k v p:Nat}:(AV.op k v p).flag=true:=rfl
theorem qpU{k v p:Nat}:(AV.op k v p).solid=true:=rfl
theorem qn8{k v p:Nat}:(AV.op k v p).cells= [(AV.op k v p)]:=rfl
theorem qiD  :AV.nilp.strip=AV.nilp:=rfl
theorem qkZ  :AV.nilp.flag=true:=rfl
theorem qin  :AV.nilp.solid=true:=rfl
theorem qhy  :AV.nilp.cells= [AV.nilp]:=rfl
theorem qp5  :AV.nl.strip=AV.nl:=rfl
theorem qtb  :AV.nl.flag=true:=rfl
theorem qpT  :AV.nl.solid=true:=rfl
theorem qn7  :AV.nl.cells= [AV.nl]:=rfl
theorem qp2{f:Fn}{a c:List AV}:(AV.fn f a c).strip=(AV.fn f a c):=rfl
theorem qs8{f:Fn}{a c:List AV}:(AV.fn f a c).flag=true:=rfl
theorem qpR{f:Fn}{a c:List AV}:(AV.fn f a c).solid=true:=rfl
theorem qn5{f:Fn}{a c:List AV}:(AV.fn f a c).cells= [(AV.fn f a c)]:=rfl
theorem qm0{k:Nat}:(AV.yld k).strip=(AV.yld k):=rfl
theorem qoE{k:Nat}:(AV.yld k).flag=true:=rfl
theorem qmH{k:Nat}:(AV.yld k).solid=true:=rfl
theorem qkt{k:Nat}:(AV.yld k).cells= [(AV.yld k)]:=rfl
theorem qf4  :AV.nilfn.strip=AV.nilfn:=rfl
theorem qhN  :AV.nilfn.flag=true:=rfl
theorem qfU  :AV.nilfn.solid=true:=rfl
theorem qfo  :AV.nilfn.cells= [AV.nilfn]:=rfl
theorem qmT  :AV.ifc.strip=AV.ifc:=rfl
theorem qox  :AV.ifc.flag=true:=rfl
theorem qmB  :AV.ifc.solid=true:=rfl
theorem qkm  :AV.ifc.cells= [AV.ifc]:=rfl
theorem qf5  :AV.nilif.strip=AV.nilif:=rfl
theorem qhO  :AV.nilif.flag=true:=rfl
theorem qfV  :AV.nilif.solid=true:=rfl
theorem qfp  :AV.nilif.cells= [AV.nilif]:=rfl
theorem qf8:AV.undef.strip=AV.undef:=rfl
theorem qhR:AV.undef.flag=true:=rfl
theorem qkl{c:List AV}:(AV.agg c).cells=c:=rfl
theorem qp3{g:Bool}{v:AV}:(AV.gd g v).strip=v:=rfl
theorem qs9{g:Bool}{v:AV}:(AV.gd g v).flag=g:=rfl
theorem qDH{P:Program}{b:Nat}{r:List RO}{K:Nx}{t:List AV}{h:List AObj}{d:Nat} {x:X}:qK P b (⟨some d,none,.mv,[x]⟩::r) K t h=((ev t x).flag=true∧qK P b r K (ja d t ((ev t x).strip)) h):=by simp only[qK,qN,zR,R.kd,evs,flags,strips,qT,okP,okL,valP,valL,and_true,true_and,and_assoc]
theorem qBJ{P:Program}{b:Nat}{r:List RO}{K:Nx}{t:List AV}{h:List AObj}{d:Nat} {x:X}{j:Nat}{u:Bool}:qK P b (⟨some d,some (j,u),.mv,[x]⟩::r) K t h=(q9 (zh j t)=true∧(qM (zh j t) u=true→(ev t x).flag=true)∧qK P b r K (ja d t (.gd (qM (zh j t) u) ((ev t x).strip))) h):=by simp only[qK,qN,jZ,R.kd,evs,flags,strips,qT,okP,okL,valP,valL,and_true,true_and,and_assoc]
theorem qBv{P:Program}{b:Nat}{r:List RO}{K:Nx}{t:List AV}{h:List AObj}{d:Nat}{q:BinOp}{x y:X}:qK P b (⟨some d,none,.bin q,[x,y]⟩::r) K t h=((ev t x).flag=true∧(ev t y).flag=true∧qaq q (ev t x).strip (ev t y).strip∧qK P b r K (ja d t (qaI q (ev t x).strip (ev t y).strip)) h):=by simp only[qK,qN,zR,R.kd,evs,flags,strips,qT,okP,okL,valP,valL,and_true,true_and,and_assoc]
theorem qzT{P:Program}{b:Nat}{r:List RO}{K:Nx}{t:List AV}{h:List AObj}{d:Nat}{q:BinOp}{x y:X}{j:Nat}{u:Bool}:qK P b (⟨some d,some (j,u),.bin q,[x,y]⟩::r) K t h=(q9 (zh j t)=true∧(qM (zh j t) u=true→(ev t x).flag=true∧(ev t y).flag=true∧qaq q (ev t x).strip (ev t y).strip)∧qK P b r K (ja d t (.gd (qM (zh j t) u) (qaI q (ev t x).strip (ev t y).strip))) h):=by simp only[qK,qN,jZ,R.kd,evs,flags,strips,qT,okP,okL,valP,valL,and_true,true_and,and_assoc]
theorem quN{P:Program}{b:Nat}{r:List RO}{K:Nx}{t:List AV}{h:List AObj}{d:Nat}{n:Bool}{xs:List X}{j:Nat}{u:Bool}:qK P b (⟨some d,some (j,u),.bool n,xs⟩::r) K t h=(q9 (zh j t)=true∧(qM (zh j t) u=true→flags (evs t xs)∧okP (.bool n) (strips (evs t xs)))∧qK P b r K (ja d t (.gd (qM (zh j t) u) (valP (.bool n) (strips (evs t xs))))) h):=by simp only[qK,qN,jZ,R.kd,qT]
theorem qDI{P:Program}{b:Nat}{r:List RO}{K:Nx}{t:List AV}{h:List AObj}{d:Nat}{q:UnOp}{xs:List X}:qK P b (⟨some d,none,.un q,xs⟩::r) K t h=(flags (evs t xs)∧okP (.un q) (strips (evs t xs))∧qK P b r K (ja d t (valP (.un q) (strips (evs t xs)))) h):=by simp only[qK,qN,zR,R.kd,qT]
theorem qBK{P:Program}{b:Nat}{r:List RO}{K:Nx}{t:List AV}{h:List AObj}{d:Nat}{q:UnOp}{xs:List X}{j:Nat}{u:Bool}:qK P b (⟨some d,some (j,u),.un q,xs⟩::r) K t h=(q9 (zh j t)=true∧(qM (zh j t) u=true→flags (evs t xs)∧okP (.un q) (strips (evs t xs)))∧qK P b r K (ja d t (.gd (qM (zh j t) u) (valP (.un q) (strips (evs t xs))))) h):=by simp only[qK,qN,jZ,R.kd,qT]
theorem qzl{P:Program}{b:Nat}{r:List RO}{K:Nx}{t:List AV}{h:List AObj}{d:Nat}{k:IntKind}{xs:List X}:qK P b (⟨some d,none,.conv k,xs⟩::r) K t h=(flags (evs t xs)∧okP (.conv k) (strips (evs t xs))∧qK P b r K (ja d t (valP (.conv k) (strips (evs t xs)))) h):=by simp only[qK,qN,zR,R.kd,qT]
theorem quI{P:Program}{b:Nat}{r:List RO}{K:Nx}{t:List AV}{h:List AObj}{d:Nat}{k:NK}{n:Bool}{xs:List X}:qK P b (⟨some d,none,.isnil k n,xs⟩::r) K t h=(flags (evs t xs)∧okP (.isnil k n) (strips (evs t xs))∧qK P b r K (ja d t (valP (.isnil k n) (strips (evs t xs)))) h):=by simp only[qK,qN,zR,R.kd,qT]
theorem qBx{P:Program}{b:Nat}{r:List RO}{K:Nx}{t:List AV}{h:List AObj}{d:Nat}{i:Nat}{xs:List X}:qK P b (⟨some d,none,.ext i,xs⟩::r) K t h=(flags (evs t xs)∧okP (.ext i) (strips (evs t xs))∧qK P b r K (ja d t (valP (.ext i) (strips (evs t xs)))) h):=by simp only[qK,qN,zR,R.kd,qT]
theorem quG{P:Program}{b:Nat}{r:List RO}{K:Nx}{t:List AV}{h:List AObj}{d:Nat}{z:List AV}{ps:List (Nat×Nat)}{xs:List X}:qK P b (⟨some d,none,.build z ps,xs⟩::r) K t h=(flags (evs t xs)∧okP (.build z ps) (strips (evs t xs))∧qK P b r K (ja d t (valP (.build z ps) (strips (evs t xs)))) h):=by simp only[qK,qN,zR,R.kd,qT]
theorem qzr{P:Program}{b:Nat}{r:List RO}{K:Nx}{t:List AV}{h:List AObj}{d:Nat}{f:Fn}{n:Nat}{xs:List X}:qK P b (⟨some d,none,.mkfn f n,xs⟩::r) K t h=(flags (evs t xs)∧okP (.mkfn f n) (strips (evs t xs))∧qK P b r K (ja d t (valP (.mkfn f n) (strips (evs t xs)))) h):=by simp only[qK,qN,zR,R.kd,qT]
theorem quS{P:Program}{b:Nat}{r:List RO}{K:Nx}{t:List AV}{h:List AObj}{d:Nat}{f:Fn}{n:Nat}{xs:List X}{j:Nat}{u:Bool}:qK P b (⟨some d,some (j,u),.mkfn f n,xs⟩::r) K t h=(q9 (zh j t)=true∧(qM (zh j t) u=true→flags (evs t xs)∧okP (.mkfn f n) (strips (evs t xs)))∧qK P b r K (ja d t (.gd (qM (zh j t) u) (valP (.mkfn f n) (strips (evs t xs))))) h):=by simp only[qK,qN,jZ,R.kd,qT]
theorem qzv{P:Program}{b:Nat}{r:List RO}{K:Nx}{t:List AV}{h:List AObj}{d:Nat} {xs:List X}:qK P b (⟨some d,none,.slen,xs⟩::r) K t h=(flags (evs t xs)∧okP (.slen) (strips (evs t xs))∧qK P b r K (ja d t (valP (.slen) (strips (evs t xs)))) h):=by simp only[qK,qN,zR,R.kd,qT]
theorem quV{P:Program}{b:Nat}{r:List RO}{K:Nx}{t:List AV}{h:List AObj}{d:Nat} {xs:List X}{j:Nat}{u:Bool}:qK P b (⟨some d,some (j,u),.slen,xs⟩::r) K t h=(q9 (zh j t)=true∧(qM (zh j t) u=true→flags (evs t xs)∧okP (.slen) (strips (evs t xs)))∧qK P b r K (ja d t (.gd (qM (zh j t) u) (valP (.slen) (strips (evs t xs))))) h):=by simp only[qK,qN,jZ,R.kd,qT]
theorem qzu{P:Program}{b:Nat}{r:List RO}{K:Nx}{t:List AV}{h:List AObj}{d:Nat} {xs:List X}:qK P b (⟨some d,none,.sidx,xs⟩::r) K t h=(flags (evs t xs)∧okP (.sidx) (strips (evs t xs))∧qK P b r K (ja d t (valP (.sidx) (strips (evs t xs)))) h):=by simp only[qK,qN,zR,R.kd,qT]
theorem quU{P:Program}{b:Nat}{r:List RO}{K:Nx}{t:List AV}{h:List AObj}{d:Nat} {xs:List X}{j:Nat}{u:Bool}:qK P b (⟨some d,some (j,u),.sidx,xs⟩::r) K t h=(q9 (zh j t)=true∧(qM (zh j t) u=true→flags (evs t xs)∧okP (.sidx) (strips (evs t xs)))∧qK P b r K (ja d t (.gd (qM (zh j t) u) (valP (.sidx) (strips (evs t xs))))) h):=by simp only[qK,qN,jZ,R.kd,qT]
theorem qzw{P:Program}{b:Nat}{r:List RO}{K:Nx}{t:List AV}{h:List AObj}{d:Nat}{lo hi:Bool}{xs:List X}:qK P b (⟨some d,none,.sslc lo hi,xs⟩::r) K t h=(flags (evs t xs)∧okP (.sslc lo hi) (strips (evs t xs))∧qK P b r K (ja d t (valP (.sslc lo hi) (strips (evs t xs)))) h):=by simp only[qK,qN,zR,R.kd,qT]
theorem quW{P:Program}{b:Nat}{r:List RO}{K:Nx}{t:List AV}{h:List AObj}{d:Nat}{lo hi:Bool}{xs:List X}{j:Nat}{u:Bool}:qK P b (⟨some d,some (j,u),.sslc lo hi,xs⟩::r) K t h=(q9 (zh j t)=true∧(qM (zh j t) u=true→flags (evs t xs)∧okP (.sslc lo hi) (strips (evs t xs)))∧qK P b r K (ja d t (.gd (qM (zh j t) u) (valP (.sslc lo hi) (strips (evs t xs))))) h):=by simp only[qK,qN,jZ,R.kd,qT]
theorem qDG{P:Program}{b:Nat}{r:List RO}{K:Nx}{t:List AV}{h:List AObj}{d:Nat}{m:Bool}{xs:List X}:qK P b (⟨some d,none,.mm m,xs⟩::r) K t h=(flags (evs t xs)∧okP (.mm m) (strips (evs t xs))∧qK P b r K (ja d t (valP (.mm m) (strips (evs t xs)))) h):=by simp only[qK,qN,zR,R.kd,qT]
theorem qBy{P:Program}{b:Nat}{r:List RO}{K:Nx}{t:List AV}{h:List AObj}{d:Nat} {xs:List X}:qK P b (⟨some d,none,.len,xs⟩::r) K t h=(flags (evs t xs)∧okL h (.len) (strips (evs t xs))∧qK P b r K (ja d t (valL h (.len) (strips (evs t xs)))) h):=by simp only[qK,qN,zR,R.kd,qT]
theorem qzU{P:Program}{b:Nat}{r:List RO}{K:Nx}{t:List AV}{h:List AObj}{d:Nat} {xs:List X}{j:Nat}{u:Bool}:qK P b (⟨some d,some (j,u),.len,xs⟩::r) K t h=(q9 (zh j t)=true∧(qM (zh j t) u=true→flags (evs t xs)∧okL h (.len) (strips (evs t xs)))∧qK P b r K (ja d t (.gd (qM (zh j t) u) (valL h (.len) (strips (evs t xs))))) h):=by simp only[qK,qN,jZ,R.kd,qT]
theorem qzo{P:Program}{b:Nat}{r:List RO}{K:Nx}{t:List AV}{h:List AObj}{d:Nat}{z:Nat}{xs:List X}:qK P b (⟨some d,none,.idxA z,xs⟩::r) K t h=(flags (evs t xs)∧okL h (.idxA z) (strips (evs t xs))∧qK P b r K (ja d t (valL h (.idxA z) (strips (evs t xs)))) h):=by simp only[qK,qN,zR,R.kd,qT]
theorem quQ{P:Program}{b:Nat}{r:List RO}{K:Nx}{t:List AV}{h:List AObj}{d:Nat}{z:Nat}{xs:List X}{j:Nat}{u:Bool}:qK P b (⟨some d,some (j,u),.idxA z,xs⟩::r) K t h=(q9 (zh j t)=true∧(qM (zh j t) u=true→flags (evs t xs)∧okL h (.idxA z) (strips (evs t xs)))∧qK P b r K (ja d t (.gd (qM (zh j t) u) (valL h (.idxA z) (strips (evs t xs))))) h):=by simp only[qK,qN,jZ,R.kd,qT]
theorem qzm{P:Program}{b:Nat}{r:List RO}{K:Nx}{t:List AV}{h:List AObj}{d:Nat}{p:Nat}{xs:List X}:qK P b (⟨some d,none,.fldA p,xs⟩::r) K t h=(flags (evs t xs)∧okL h (.fldA p) (strips (evs t xs))∧qK P b r K (ja d t (valL h (.fldA p) (strips (evs t xs)))) h):=by simp only[qK,qN,zR,R.kd,qT]
theorem quP{P:Program}{b:Nat}{r:List RO}{K:Nx}{t:List AV}{h:List AObj}{d:Nat}{p:Nat}{xs:List X}{j:Nat}{u:Bool}:qK P b (⟨some d,some (j,u),.fldA p,xs⟩::r) K t h=(q9 (zh j t)=true∧(qM (zh j t) u=true→flags (evs t xs)∧okL h (.fldA p) (strips (evs t xs)))∧qK P b r K (ja d t (.gd (qM (zh j t) u) (valL h (.fldA p) (strips (evs t xs))))) h):=by simp only[qK,qN,jZ,R.kd,qT]
theorem qzq{P:Program}{b:Nat}{r:List RO}{K:Nx}{t:List AV}{h:List AObj}{d:Nat}{n:Option Nat}{xs:List X}:qK P b (⟨some d,none,.load n,xs⟩::r) K t h=(flags (evs t xs)∧okL h (.load n) (strips (evs t xs))∧qK P b r K (ja d t (valL h (.load n) (strips (evs t xs)))) h):=by simp only[qK,qN,zR,R.kd,qT]
theorem quR{P:Program}{b:Nat}{r:List RO}{K:Nx}{t:List AV}{h:List AObj}{d:Nat}{n:Option Nat}{xs:List X}{j:Nat}{u:Bool}:qK P b (⟨some d,some (j,u),.load n,xs⟩::r) K t h=(q9 (zh j t)=true∧(qM (zh j t) u=true→flags (evs t xs)∧okL h (.load n) (strips (evs t xs)))∧qK P b r K (ja d t (.gd (qM (zh j t) u) (valL h (.load n) (strips (evs t xs))))) h):=by simp only[qK,qN,jZ,R.kd,qT]
theorem qBB{P:Program}{b:Nat}{r:List RO}{K:Nx}{t:List AV}{h:List AObj}{d:Nat}{z:Nat}{lo hi:Bool}{xs:List X}:qK P b (⟨some d,none,.slc z lo hi,xs⟩::r) K t h=(flags (evs t xs)∧okL h (.slc z lo hi) (strips (evs t xs))∧qK P b r K (ja d t (valL h (.slc z lo hi) (strips (evs t xs)))) h):=by simp only[qK,qN,zR,R.kd,qT]
theorem qzV{P:Program}{b:Nat}{r:List RO}{K:Nx}{t:List AV}{h:List AObj}{d:Nat}{z:Nat}{lo hi:Bool}{xs:List X}{j:Nat}{u:Bool}:qK P b (⟨some d,some (j,u),.slc z lo hi,xs⟩::r) K t h=(q9 (zh j t)=true∧(qM (zh j t) u=true→flags (evs t xs)∧okL h (.slc z lo hi) (strips (evs t xs)))∧qK P b r K (ja d t (.gd (qM (zh j t) u) (valL h (.slc z lo hi) (strips (evs t xs))))) h):=by simp only[qK,qN,jZ,R.kd,qT]
theorem qzt{P:Program}{b:Nat}{r:List RO}{K:Nx}{t:List AV}{h:List AObj}{d:Nat}{c x y:X}:qK P b (⟨some d,none,.pick,[c,x,y]⟩::r) K t h=(qax (ev t c) (ev t x) (ev t y)∧qK P b r K (ja d t (jK (ev t c) (ev t x) (ev t y))) h):=by simp only[qK,qN,zR,R.kd,qT,evs]
theorem quT{P:Program}{b:Nat}{r:List RO}{K:Nx}{t:List AV}{h:List AObj}{d:Nat}{c x y:X}{j:Nat}{u:Bool}:qK P b (⟨some d,some (j,u),.pick,[c,x,y]⟩::r) K t h=(q9 (zh j t)=true∧(qM (zh j t) u=true→qax (ev t c) (ev t x) (ev t y))∧qK P b r K (ja d t (.gd (qM (zh j t) u) (jK (ev t c) (ev t x) (ev t y)))) h):=by simp only[qK,qN,jZ,R.kd,qT,evs]
theorem qzs{P:Program}{b:Nat}{r:List RO}{K:Nx}{t:List AV}{h:List AObj}{d:Option Nat}{j z:Nat}{ty:TypeId}{xs:List X}:qK P b (⟨d,none,.nilo j z ty,xs⟩::r) K t h=(flags (evs t xs)∧jB b h (.nilo j z ty) (strips (evs t xs)) t d (qK P b r K)):=by simp only[qK,qN,zR,R.kd]
theorem quF{P:Program}{b:Nat}{r:List RO}{K:Nx}{t:List AV}{h:List AObj}{d:Option Nat}{j:Nat}{ty:TypeId}{z:List AV}{xs:List X}:qK P b (⟨d,none,.alloc j ty z,xs⟩::r) K t h=(flags (evs t xs)∧jB b h (.alloc j ty z) (strips (evs t xs)) t d (qK P b r K)):=by simp only[qK,qN,zR,R.kd]
theorem qBw{P:Program}{b:Nat}{r:List RO}{K:Nx}{t:List AV}{h:List AObj}{d:Option Nat}{j:Nat}{ty:TypeId}{xs:List X}:qK P b (⟨d,none,.box j ty,xs⟩::r) K t h=(flags (evs t xs)∧jB b h (.box j ty) (strips (evs t xs)) t d (qK P b r K)):=by simp only[qK,qN,zR,R.kd]
theorem quL{P:Program}{b:Nat}{r:List RO}{K:Nx}{t:List AV}{h:List AObj}{d:Option Nat}{n:Nat}{xs:List X}:qK P b (⟨d,none,.store n,xs⟩::r) K t h=(flags (evs t xs)∧jB b h (.store n) (strips (evs t xs)) t d (qK P b r K)):=by simp only[qK,qN,zR,R.kd]
theorem quK{P:Program}{b:Nat}{r:List RO}{K:Nx}{t:List AV}{h:List AObj}{d:Option Nat}{j z m:Nat}{ty:TypeId}{zs:List AV}{xs:List X}:qK P b (⟨d,none,.mkslc j z ty zs m,xs⟩::r) K t h=(flags (evs t xs)∧jB b h (.mkslc j z ty zs m) (strips (evs t xs)) t d (qK P b r K)):=by simp only[qK,qN,zR,R.kd]
theorem qzj{P:Program}{b:Nat}{r:List RO}{K:Nx}{t:List AV}{h:List AObj}{d:Option Nat}{j z n:Nat}{ty:TypeId}{zs:List AV}{ps:List (Nat×Nat)}{xs:List X}:qK P b (⟨d,none,.bslc j z n ty zs ps,xs⟩::r) K t h=(flags (evs t xs)∧jB b h (.bslc j z n ty zs ps) (strips (evs t xs)) t d (qK P b r K)):=by simp only[qK,qN,zR,R.kd]
theorem qBu{P:Program}{b:Nat}{r:List RO}{K:Nx}{t:List AV}{h:List AObj}{d:Option Nat}{j z m:Nat}{ty:TypeId}{xs:List X}:qK P b (⟨d,none,.app j z ty m,xs⟩::r) K t h=(flags (evs t xs)∧jB b h (.app j z ty m) (strips (evs t xs)) t d (qK P b r K)):=by simp only[qK,qN,zR,R.kd]
theorem qzk{P:Program}{b:Nat}{r:List RO}{K:Nx}{t:List AV}{h:List AObj}{d:Option Nat}{f:Nat}{p:Bool}{xs:List X}:qK P b (⟨d,none,.call f p,xs⟩::r) K t h=qka P f p (evs t xs) d (qK P b r K) t h:=by simp only[qK,qN,zR,R.kd]
theorem quO{P:Program}{b:Nat}{r:List RO}{K:Nx}{t:List AV}{h:List AObj}{d:Option Nat}{f:Nat}{p:Bool}{xs:List X}{j:Nat}{u:Bool}:qK P b (⟨d,some (j,u),.call f p,xs⟩::r) K t h=(q9 (zh j t)=true∧qkd P f p (qM (zh j t) u) (evs t xs) d (qK P b r K) t h):=by simp only[qK,qN,jZ,R.kd]
theorem quH{P:Program}{b:Nat}{r:List RO}{K:Nx}{t:List AV}{h:List AObj}{d:Option Nat}{xs:List X}:qK P b (⟨d,none,.callv,xs⟩::r) K t h=(flags (evs t xs)∧qb1 P (strips (evs t xs)) d (qK P b r K) t h):=by simp only[qK,qN,zR,R.kd]
theorem qBz{P:Program}{b:Nat}{K:Nx}{t:List AV}{h:List AObj}:qK P b [] K t h=K t h:=(rfl)
theorem qs6{t:List AV}:evs t []= []:=rfl
theorem qor{t:List AV}{x:X}{r:List X}:evs t (x::r)=ev t x::evs t r:=rfl
theorem qiG:strips []= []:=rfl
theorem qf9{x:AV}{r:List AV}:strips (x::r)=x.strip::strips r:=rfl
theorem qk2:flags []=True:=rfl
theorem qhS{x:AV}{r:List AV}:flags (x::r)=(x.flag=true∧flags r):=rfl
theorem qjw{k l:IntKind}{a c:Int}:qaI .add (.int k a) (.int l c)= .int k (k.wrap (a+c)):=rfl
theorem qja{k l:IntKind}{a c:Int}:qaq .add (.int k a) (.int l c)=(k=l):=rfl
theorem qjJ{k l:IntKind}{a c:Int}:qaI .sub (.int k a) (.int l c)= .int k (k.wrap (a-c)):=rfl
theorem qjn{k l:IntKind}{a c:Int}:qaq .sub (.int k a) (.int l c)=(k=l):=rfl
theorem qjD{k l:IntKind}{a c:Int}:qaI .mul (.int k a) (.int l c)= .int k (k.wrap (a*c)):=rfl
theorem qjh{k l:IntKind}{a c:Int}:qaq .mul (.int k a) (.int l c)=(k=l):=rfl
theorem qjF{k l:IntKind}{a c:Int}:qaI .quo (.int k a) (.int l c)= .int k (k.wrap (a.tdiv c)):=rfl
theorem qjj{k l:IntKind}{a c:Int}:qaq .quo (.int k a) (.int l c)=(k=l∧c≠0):=rfl
theorem qjG{k l:IntKind}{a c:Int}:qaI .rem (.int k a) (.int l c)= .int k (a.tmod c):=rfl
theorem qjk{k l:IntKind}{a c:Int}:qaq .rem (.int k a) (.int l c)=(k=l∧c≠0):=rfl
theorem qjH{k l:IntKind}{a c:Int}:qaI .shl (.int k a) (.int l c)= .int k (qvc k a c):=rfl
theorem qjl{k l:IntKind}{a c:Int}:qaq .shl (.int k a) (.int l c)=(0≤c):=rfl
theorem qjI{k l:IntKind}{a c:Int}:qaI .shr (.int k a) (.int l c)= .int k (qum k a c):=rfl
theorem qjm{k l:IntKind}{a c:Int}:qaq .shr (.int k a) (.int l c)=(0≤c):=rfl
theorem qjy{k l:IntKind}{a c:Int}:qaI .eql (.int k a) (.int l c)= .bool (decide (a=c)):=rfl
theorem qjc{k l:IntKind}{a c:Int}:qaq .eql (.int k a) (.int l c)=(k=l):=rfl
theorem qjE{k l:IntKind}{a c:Int}:qaI .neq (.int k a) (.int l c)= .bool (!decide (a=c)):=rfl
theorem qji{k l:IntKind}{a c:Int}:qaq .neq (.int k a) (.int l c)=(k=l):=rfl
theorem qjC{k l:IntKind}{a c:Int}:qaI .lss (.int k a) (.int l c)= .bool (decide (a<c)):=rfl
theorem qjg{k l:IntKind}{a c:Int}:qaq .lss (.int k a) (.int l c)=(k=l):=rfl
theorem qjB{k l:IntKind}{a c:Int}:qaI .leq (.int k a) (.int l c)= .bool (decide (a≤c)):=rfl
theorem qjf{k l:IntKind}{a c:Int}:qaq .leq (.int k a) (.int l c)=(k=l):=rfl
theorem qjA{k l:IntKind}{a c:Int}:qaI .gtr (.int k a) (.int l c)= .bool (decide (c<a)):=rfl
theorem qje{k l:IntKind}{a c:Int}:qaq .gtr (.int k a) (.int l c)=(k=l):=rfl
theorem qjz{k l:IntKind}{a c:Int}:qaI .geq (.int k a) (.int l c)= .bool (decide (c≤a)):=rfl
theorem qjd{k l:IntKind}{a c:Int}:qaq .geq (.int k a) (.int l c)=(k=l):=rfl
theorem qjx{k l:IntKind}{a c:Int}:qaI .and (.int k a) (.int l c)= .int k (qnA k a c):=rfl
theorem qjb{k l:IntKind}{a c:Int}:qaq .and (.int k a) (.int l c)=(k=l):=rfl
theorem qnV{k l:IntKind}{a c:Int}:qaI .or (.int k a) (.int l c)= .int k (orK k a c):=rfl
theorem qnU{k l:IntKind}{a c:Int}:qaq .or (.int k a) (.int l c)=(k=l):=rfl
theorem qjK{k l:IntKind}{a c:Int}:qaI .xor (.int k a) (.int l c)= .int k (qDQ k a c):=rfl
theorem qjo{k l:IntKind}{a c:Int}:qaq .xor (.int k a) (.int l c)=(k=l):=rfl
theorem qee{k l:IntKind}{a c:Int}:qaI .andNot (.int k a) (.int l c)= .int k (qfh k a c):=rfl
theorem qed{k l:IntKind}{a c:Int}:qaq .andNot (.int k a) (.int l c)=(k=l):=rfl
theorem qjL{s u:List UInt8}:qaI .add (.str s) (.str u)= .str (s++u):=rfl
theorem qjp{s u:List UInt8}:qaq .add (.str s) (.str u)=(s.length+u.length≤9223372036854775807):=rfl
theorem qjM{s u:List UInt8}:qaI .eql (.str s) (.str u)= .bool (decide (s=u)):=rfl
theorem qjq{s u:List UInt8}:qaq .eql (.str s) (.str u)=True:=rfl
theorem qjR{s u:List UInt8}:qaI .neq (.str s) (.str u)= .bool (!decide (s=u)):=rfl
theorem qjv{s u:List UInt8}:qaq .neq (.str s) (.str u)=True:=rfl
theorem qjQ{s u:List UInt8}:qaI .lss (.str s) (.str u)= .bool (Op.bytesLess s u):=rfl
theorem qju{s u:List UInt8}:qaq .lss (.str s) (.str u)=True:=rfl
theorem qjP{s u:List UInt8}:qaI .leq (.str s) (.str u)= .bool (Op.bytesLess s u||decide (s=u)):=rfl
theorem qjt{s u:List UInt8}:qaq .leq (.str s) (.str u)=True:=rfl
theorem qjO{s u:List UInt8}:qaI .gtr (.str s) (.str u)= .bool (!(Op.bytesLess s u||decide (s=u))):=rfl
theorem qjs{s u:List UInt8}:qaq .gtr (.str s) (.str u)=True:=rfl
theorem qjN{s u:List UInt8}:qaI .geq (.str s) (.str u)= .bool (!Op.bytesLess s u):=rfl
theorem qjr{s u:List UInt8}:qaq .geq (.str s) (.str u)=True:=rfl
theorem qne{n p q:Bool}:valP (.bool n) [.bool p,.bool q]= .bool (n !=(p==q)):=rfl
theorem qpg{n p q:Bool}:okP (.bool n) [.bool p,.bool q]=True:=rfl
theorem qqj{p:Bool}:valP (.un .not) [.bool p]= .bool (!p):=rfl
theorem qtN{p:Bool}:okP (.un .not) [.bool p]=True:=rfl
theorem qqi{k:IntKind}{n:Int}:valP (.un .neg) [.int k n]= .int k (k.wrap (0-n)):=rfl
theorem qtM{k:IntKind}{n:Int}:okP (.un .neg) [.int k n]=True:=rfl
theorem qnf{k l:IntKind}{n:Int}:valP (.conv k) [.int l n]= .int k (k.wrap n):=rfl
theorem qph{k l:IntKind}{n:Int}:okP (.conv k) [.int l n]=True:=rfl
theorem qcZ{n:Bool}{x:AV}:valP (.isnil .ptr n) [x]= .bool (n !=(zf .ptr x).getD false):=rfl
theorem qdJ{n:Bool}{x:AV}:okP (.isnil .ptr n) [x]=((zf .ptr x).isSome=true):=rfl
theorem qcL{n:Bool}{x:AV}:valP (.isnil .func n) [x]= .bool (n !=(zf .func x).getD false):=rfl
theorem qcS{n:Bool}{x:AV}:okP (.isnil .func n) [x]=((zf .func x).isSome=true):=rfl
theorem qb8{n:Bool}{x:AV}:valP (.isnil .iface n) [x]= .bool (n !=(zf .iface x).getD false):=rfl
theorem qcG{n:Bool}{x:AV}:okP (.isnil .iface n) [x]=((zf .iface x).isSome=true):=rfl
theorem qd1{n:Bool}{m:Nat}{f:Nat→List AV}:valP (.isnil .slice n) [.sl m f]=if m=0 then .anyb else .bool (n !=false):=rfl
theorem qeK{n:Bool}{m:Nat}{f:Nat→List AV}:okP (.isnil .slice n) [.sl m f]=True:=rfl
theorem qd0{n:Bool}:valP (.isnil .slice n) [.nl]= .bool (n !=true):=rfl
theorem qhA(A B:Nx)(t:List AV)(h:List AObj):qfs .anyb A B t h=(A t h∧B t h):=rfl
theorem qiz:AV.strip .anyb= .anyb:=rfl
theorem qkV:AV.flag .anyb=true:=rfl
theorem qij:AV.solid .anyb=true:=rfl
theorem qhu:AV.cells .anyb= [.anyb]:=rfl
theorem qlv:zf .ptr .nilp=some true:=rfl
theorem qh1:zf .func .nilfn=some true:=rfl
theorem qh2:zf .iface .nilif=some true:=rfl
theorem qtE:zf .slice .nl=some true:=rfl
theorem qtD{c:List AV}:zf .ptr (.ip c)=some false:=rfl
theorem qtC{f:Fn}{a c:List AV}:zf .func (.fn f a c)=some false:=rfl
theorem qo5:zf .iface .ifc=some false:=rfl
theorem qqf{ks:List AK}{n:Bool}{x y:List AV}:valP (.aeq ks n) [.agg x,.agg y]= .bool (n !=(jE ks x y).getD false):=rfl
theorem qtI{ks:List AK}{n:Bool}{x y:List AV}:okP (.aeq ks n) [.agg x,.agg y]=((jE ks x y).isSome=true):=rfl
theorem qqh{p:Nat}{n:Option Nat}{c:List AV}:valP (.fld p n) [.agg c]=cut c p n:=rfl
theorem qtK{p:Nat}{n:Option Nat}{c:List AV}:okP (.fld p n) [.agg c]=jn c p n:=rfl
theorem qsI{p:Nat}{c:List AV}:jn c p none=(p<c.length):=rfl
theorem qsJ{p n:Nat}{c:List AV}:jn c p (some n)=(p+n≤c.length):=rfl
theorem qqg{i:Nat}{c:List AV}:valP (.ext i) [.tup c]=(c[i]?).getD .undef:=rfl
theorem qtJ{i:Nat}{c:List AV}:okP (.ext i) [.tup c]=(i<c.length):=rfl
theorem qiS{z:List AV}{ps:List (Nat×Nat)}{vs:List AV}:valP (.build z ps) vs= .agg (qat z ps vs):=by cases vs<;>rfl
theorem qlH{z:List AV}{ps:List (Nat×Nat)}{vs:List AV}:okP (.build z ps) vs=qaf z.length ps vs:=by cases vs<;>rfl
theorem qhK{n:Nat}:qaf n [] []=True:=rfl
theorem qfx{m p n:Nat}{ps:List (Nat×Nat)}{v:AV}{vs:List AV}:qaf m ((p,n)::ps) (v::vs)=(v.solid=true∧v.cells.length=n∧p+n≤m∧qaf m ps vs):=rfl
theorem qkQ{z:List AV}{ps:List (Nat×Nat)}:qat z ps []=z:=by cases ps<;>rfl
theorem qhJ{z:List AV}{p n:Nat}{ps:List (Nat×Nat)}{v:AV}{vs:List AV}:qat z ((p,n)::ps) (v::vs)=qat (z.take p++v.cells++z.drop (p+n)) ps vs:=rfl
theorem qnl{f:Fn}{n:Nat}{vs:List AV}:valP (.mkfn f n) vs= .fn f (vs.take n) (vs.drop n):=by cases vs<;>rfl
theorem qpk{f:Fn}{n:Nat}{vs:List AV}:okP (.mkfn f n) vs=(n≤vs.length):=by cases vs<;>rfl
theorem qnm{s:List UInt8}{k:IntKind}{i:Int}:valP .sidx [.str s,.int k i]= .int .u8 ((s[i.toNat]?).getD 0).toNat:=rfl
theorem qnd{cs:List AV}{k:IntKind}{i:Int}{n1 n2:Nat}{n3:Option Nat}:valP (.aidx n1 n2 n3) [.agg cs,.int k i]=cut cs (i.toNat*n2) n3:=rfl
theorem qpf{cs:List AV}{k:IntKind}{i:Int}{n1 n2:Nat}{n3:Option Nat}:okP (.aidx n1 n2 n3) [.agg cs,.int k i]=((0≤i∧i<n1)∧jn cs (i.toNat*n2) n3):=rfl
theorem qpl{s:List UInt8}{k:IntKind}{i:Int}:okP .sidx [.str s,.int k i]=(0≤i∧i<s.length):=rfl
theorem qiU{s:List UInt8}{k m:IntKind}{a c:Int}:valP (.sslc true true) [.str s,.int k a,.int m c]= .str ((s.drop (a:Int).toNat).take ((c:Int).toNat-(a:Int).toNat)):=by simp[valP,loB,hiB]
theorem qlJ{s:List UInt8}{k m:IntKind}{a c:Int}:okP (.sslc true true) [.str s,.int k a,.int m c]=(0≤(a:Int)∧(a:Int)≤c∧c≤(s.length:Int)):=by simp[okP,loB,hiB,qb4]
theorem qiR{g:List AObj}{z n:Nat}{f:Nat→List AV}{k m:IntKind}{a c:Int}:valL g (.slc z true true) [.sl n f,.int k a,.int m c]= .sl ((c:Int).toNat-(a:Int).toNat) (fun i=>f ((a:Int).toNat+i)):=by simp[valL,loB,hiB]
theorem qlG{g:List AObj}{z n:Nat}{f:Nat→List AV}{k m:IntKind}{a c:Int}:okL g (.slc z true true) [.sl n f,.int k a,.int m c]=((0≤(a:Int)∧(a:Int)≤c∧c≤(n:Int))∧(0<n→(f 0).length=z)):=by simp[okL,loB,hiB,qb4,and_assoc]
theorem qnp{s:List UInt8}{k:IntKind}{a:Int}:valP (.sslc true false) [.str s,.int k a]= .str ((s.drop (a:Int).toNat).take (((s.length:Int):Int).toNat-(a:Int).toNat)):=by simp[valP,loB,hiB]
theorem qpo{s:List UInt8}{k:IntKind}{a:Int}:okP (.sslc true false) [.str s,.int k a]=(0≤(a:Int)∧(a:Int)≤(s.length:Int)∧(s.length:Int)≤(s.length:Int)):=by simp[okP,loB,hiB,qb4]
theorem qnc{g:List AObj}{z n:Nat}{f:Nat→List AV}{k:IntKind}{a:Int}:valL g (.slc z true false) [.sl n f,.int k a]= .sl (((n:Int):Int).toNat-(a:Int).toNat) (fun i=>f ((a:Int).toNat+i)):=by simp[valL,loB,hiB]
theorem qpe{g:List AObj}{z n:Nat}{f:Nat→List AV}{k:IntKind}{a:Int}:okL g (.slc z true false) [.sl n f,.int k a]=((0≤(a:Int)∧(a:Int)≤(n:Int)∧(n:Int)≤(n:Int))∧(0<n→(f 0).length=z)):=by simp[okL,loB,hiB,qb4,and_assoc]
theorem qno{s:List UInt8}{k:IntKind}{c:Int}:valP (.sslc false true) [.str s,.int k c]= .str ((s.drop (0:Int).toNat).take ((c:Int).toNat-(0:Int).toNat)):=by simp[valP,loB,hiB]
theorem qpn{s:List UInt8}{k:IntKind}{c:Int}:okP (.sslc false true) [.str s,.int k c]=(0≤(0:Int)∧(0:Int)≤c∧c≤(s.length:Int)):=by simp[okP,loB,hiB,qb4]
theorem qnb{g:List AObj}{z n:Nat}{f:Nat→List AV}{k:IntKind}{c:Int}:valL g (.slc z false true) [.sl n f,.int k c]= .sl ((c:Int).toNat-(0:Int).toNat) (fun i=>f ((0:Int).toNat+i)):=by simp[valL,loB,hiB]
theorem qpd{g:List AObj}{z n:Nat}{f:Nat→List AV}{k:IntKind}{c:Int}:okL g (.slc z false true) [.sl n f,.int k c]=((0≤(0:Int)∧(0:Int)≤c∧c≤(n:Int))∧(0<n→(f 0).length=z)):=by simp[okL,loB,hiB,qb4,and_assoc]
theorem qna{g:List AObj}{z w v y p n:Nat}{k:IntKind}{c:Int}:valL g (.slc z false true) [.osl w v y p n,.int k c]= .osl w v y (p+(0:Int).toNat*y) ((c:Int).toNat-(0:Int).toNat):=by simp[valL,loB,hiB]
theorem qpc{g:List AObj}{z w v y p n:Nat}{k:IntKind}{c:Int}:okL g (.slc z false true) [.osl w v y p n,.int k c]=((0≤(0:Int)∧(0:Int)≤c∧c≤(n:Int))∧y=z∧jl g w v=true∧((0:Int)=0∨(0:Int)<n)):=by simp[okL,loB,hiB,qb4,and_assoc]
theorem qnh{k l:IntKind}{a c:Int}:valP (.mm true) [.int k a,.int l c]= .int k (max a c):=rfl
theorem qnj{k l:IntKind}{a c:Int}:valP (.mm false) [.int k a,.int l c]= .int k (min a c):=rfl
theorem qni{k l m:IntKind}{a c e:Int}:valP (.mm true) [.int k a,.int l c,.int m e]= .int k (max (max a c) e):=rfl
theorem qnk{k l m:IntKind}{a c e:Int}:valP (.mm false) [.int k a,.int l c,.int m e]= .int k (min (min a c) e):=rfl
theorem qtL{x:Bool}{k l:IntKind}{a c:Int}:okP (.mm x) [.int k a,.int l c]=True:=by simp[okP,qb4]
theorem qiP{g:List AObj}{n:Nat}{f:Nat→List AV}:valL g .len [.sl n f]= .int .i64 n:=rfl
theorem qlF{g:List AObj}{n:Nat}{f:Nat→List AV}:okL g .len [.sl n f]=True:=rfl
theorem qiO{g:List AObj}:valL g .len [.nl]= .int .i64 0:=rfl
theorem qlE{g:List AObj}:okL g .len [.nl]=True:=rfl
theorem qnn{s:List UInt8}:valP .slen [.str s]= .int .i64 s.length:=rfl
theorem qpm{s:List UInt8}:okP .slen [.str s]=True:=rfl
theorem qgf{g:List AObj}{k v z p n:Nat}:valL g .len [.osl k v z p n]= .int .i64 n:=rfl
theorem qh7{g:List AObj}{k v z p n:Nat}:okL g .len [.osl k v z p n]=(jl g k v=true):=rfl
theorem qiN{g:List AObj}{z n:Nat}{f:Nat→List AV}{k:IntKind}{i:Int}:valL g (.idxA z) [.sl n f,.int k i]= .ip (f i.toNat):=rfl
theorem qlD{g:List AObj}{z n:Nat}{f:Nat→List AV}{k:IntKind}{i:Int}:okL g (.idxA z) [.sl n f,.int k i]=((0≤i∧i<n)∧(f i.toNat).length=z):=rfl
theorem qge{g:List AObj}{z q v y p n:Nat}{k:IntKind}{i:Int}:valL g (.idxA z) [.osl q v y p n,.int k i]= .op q v (p+i.toNat*y):=rfl
theorem qh6{g:List AObj}{z q v y p n:Nat}{k:IntKind}{i:Int}:okL g (.idxA z) [.osl q v y p n,.int k i]=((0≤i∧i<n)∧y=z∧(cellsOf g q v).isSome=true):=rfl
theorem qiJ{g:List AObj}{m z:Nat}{c:List AV}{k:IntKind}{i:Int}:valL g (.idxArr m z) [.ip c,.int k i]= .ip ((c.drop (i.toNat*z)).take z):=rfl
theorem qly{g:List AObj}{m z:Nat}{c:List AV}{k:IntKind}{i:Int}:okL g (.idxArr m z) [.ip c,.int k i]=((0≤i∧i<m)∧c.length=m*z):=rfl
theorem qiK{g:List AObj}{m z q v p:Nat}{k:IntKind}{i:Int}:valL g (.idxArr m z) [.op q v p,.int k i]= .op q v (p+i.toNat*z):=rfl
theorem qlz{g:List AObj}{m z q v p:Nat}{k:IntKind}{i:Int}:okL g (.idxArr m z) [.op q v p,.int k i]=((0≤i∧i<m)∧(cellsOf g q v).isSome=true):=rfl
theorem qiL{g:List AObj}{p:Nat}{c:List AV}:valL g (.fldA p) [.ip c]= .ip (c.drop p):=rfl
theorem qlB{g:List AObj}{p:Nat}{c:List AV}:okL g (.fldA p) [.ip c]=(p<c.length):=rfl
theorem qiM{g:List AObj}{p q v o:Nat}:valL g (.fldA p) [.op q v o]= .op q v (o+p):=rfl
theorem qlC{g:List AObj}{p q v o:Nat}:okL g (.fldA p) [.op q v o]=((cellsOf g q v).isSome=true):=rfl
theorem qm5{g:List AObj}{n:Option Nat}{c:List AV}:valL g (.load n) [.ip c]=cut c 0 n:=rfl
theorem qo7{g:List AObj}{n:Option Nat}{c:List AV}:okL g (.load n) [.ip c]=jn c 0 n:=rfl
theorem qm6{g:List AObj}{n:Option Nat}{q v p:Nat}:valL g (.load n) [.op q v p]=cut ((cellsOf g q v).getD []) p n:=rfl
theorem qo8{g:List AObj}{n:Option Nat}{q v p:Nat}:okL g (.load n) [.op q v p]=((cellsOf g q v).isSome=true∧jn ((cellsOf g q v).getD []) p n):=rfl
theorem qm8{g:List AObj}{c:List AV}:valL g .nilchk [.ip c]= .ip c:=rfl
theorem qpa{g:List AObj}{c:List AV}:okL g .nilchk [.ip c]=True:=rfl
theorem qm9{g:List AObj}{q v p:Nat}:valL g .nilchk [.op q v p]= .op q v p:=rfl
theorem qpb{g:List AObj}{q v p:Nat}:okL g .nilchk [.op q v p]=((cellsOf g q v).isSome=true):=rfl
theorem qm7{g:List AObj}{f:Fn}{a c:List AV}:valL g .nilchk [.fn f a c]= .fn f a c:=rfl
theorem qo9{g:List AObj}{f:Nat}{a c:List AV}:okL g .nilchk [.fn (.func f) a c]=True:=rfl
theorem qoh{c:List AV}{p:Nat}:cut c p none=(c[p]?).getD .undef:=rfl
theorem qoi{c:List AV}{p n:Nat}:cut c p (some n)= .agg ((c.drop p).take n):=rfl
theorem qoQ{b w:Bool}:qM (.bool b) w=(b==w):=rfl
theorem qle{g b w:Bool}:qM (.gd g (.bool b)) w=(g&&(b==w)):=rfl
theorem qlf{b:Bool}:q9 (.bool b)=true:=rfl
theorem qhV{g b:Bool}:q9 (.gd g (.bool b))=true:=rfl
theorem qpq{c:Bool}{x y:AV}:qax (.bool c) x y=((c=true→x.flag=true)∧(c=false→y.flag=true)):=rfl
theorem qlT{g c:Bool}{x y:AV}:qax (.gd g (.bool c)) x y=(g=true∧(c=true→x.flag=true)∧(c=false→y.flag=true)):=rfl
theorem qlU{c p q:Bool}:jK (.bool c) (.bool p) (.bool q)= .bool ((c&&p)||(!c&&q)):=rfl
theorem ql0{c p q gc:Bool}:jK (.gd gc (.bool c)) (.bool p) (.bool q)= .bool ((c&&p)||(!c&&q)):=rfl
theorem qlV{c p q gq:Bool}:jK (.bool c) (.bool p) (.gd gq (.bool q))= .bool ((c&&p)||(!c&&q)):=rfl
theorem ql1{c p q gq gc:Bool}:jK (.gd gc (.bool c)) (.bool p) (.gd gq (.bool q))= .bool ((c&&p)||(!c&&q)):=rfl
theorem qlW{c p q gp:Bool}:jK (.bool c) (.gd gp (.bool p)) (.bool q)= .bool ((c&&p)||(!c&&q)):=rfl
theorem ql2{c p q gp gc:Bool}:jK (.gd gc (.bool c)) (.gd gp (.bool p)) (.bool q)= .bool ((c&&p)||(!c&&q)):=rfl
theorem qlX{c p q gp gq:Bool}:jK (.bool c) (.gd gp (.bool p)) (.gd gq (.bool q))= .bool ((c&&p)||(!c&&q)):=rfl
theorem ql3{c p q gp gq gc:Bool}:jK (.gd gc (.bool c)) (.gd gp (.bool p)) (.gd gq (.bool q))= .bool ((c&&p)||(!c&&q)):=rfl
theorem qwv{P:Program}{b:Nat}{Q:Ex→Nx}{t:List AV}{h:List AObj}:qX P b .skip Q t h=Q .normal t h:=(rfl)
theorem qAi{P:Program}{b:Nat}{Q:Ex→Nx}{t:List AV}{h:List AObj}{l:List RO}:qX P b (.ops l) Q t h=qK P b l (Q .normal) t h:=(rfl)
theorem qAk{P:Program}{b:Nat}{Q:Ex→Nx}{t:List AV}{h:List AObj}{x y:C}:qX P b (.seq x y) Q t h=qX P b x (Ex.andThen (qX P b y Q) Q) t h:=(rfl)
theorem qwt{P:Program}{b:Nat}{Q:Ex→Nx}{t:List AV}{h:List AObj}{c:X}{x y:C}:qX P b (.cond c x y) Q t h=qfs (ev t c) (qX P b x Q) (qX P b y Q) t h:=(rfl)
theorem qsm{P:Program}{b:Nat}{Q:Ex→Nx}{t:List AV}{h:List AObj}{i:Nat}{x:C}:qX P b (.block i x) Q t h=qX P b x (Ex.inBlock i Q) t h:=(rfl)
theorem qwu{P:Program}{b:Nat}{Q:Ex→Nx}{t:List AV}{h:List AObj}{i:Nat}:qX P b (.exit i) Q t h=Q (.exit i) t h:=(rfl)
theorem qAj{P:Program}{b:Nat}{Q:Ex→Nx}{t:List AV}{h:List AObj}:qX P b .ret Q t h=Q .ret t h:=(rfl)
theorem qCx{K:Nx}{Q:Ex→Nx}{t:List AV}{h:List AObj}:Ex.andThen K Q .normal t h=K t h:=(rfl)
theorem qCw{K:Nx}{Q:Ex→Nx}{t:List AV}{h:List AObj}{i:Nat}:Ex.andThen K Q (.exit i) t h=Q (.exit i) t h:=(rfl)
theorem qCy{K:Nx}{Q:Ex→Nx}{t:List AV}{h:List AObj}:Ex.andThen K Q .ret t h=Q .ret t h:=(rfl)
theorem qC2{i:Nat}{Q:Ex→Nx}{t:List AV}{h:List AObj}:Ex.inBlock i Q .normal t h=Q .normal t h:=(rfl)
theorem qC3{i:Nat}{Q:Ex→Nx}{t:List AV}{h:List AObj}:Ex.inBlock i Q .ret t h=Q .ret t h:=(rfl)
theorem qC1{i j:Nat}{Q:Ex→Nx}{t:List AV}{h:List AObj}:Ex.inBlock i Q (.exit j) t h=if j=i then Q .normal t h else Q (.exit j) t h:=(rfl)
end AF
end
section
namespace AF
open Go
attribute [go_sem] qnd qpf qyc qyS qyd qyT qye qyU qyf qyV qyg qyW qyh qyX qyi qyY qyj qyZ qtq qui qoP qpK qCR qCQ qiA qkW qik qhv qmU qoy qmC qkn qmY qoC qmG qkr qp7 qtd qpV qn9 qmW qoA qmE qkp qmS qow qmA qmZ qoD qks qp4 qta qpS qn6 qp6 qtc qpU qn8 qiD qkZ qin qhy qp5 qtb qpT qn7 qp2 qs8 qpR qn5 qm0 qoE qmH qkt qf4 qhN qfU qfo qmT qox qmB qkm qf5 qhO qfV qfp qf8 qhR qkl qp3 qs9 qDH qBJ qBv qzT quN qDI qBK qzl quI qBx quG qzr quS qzv quV qzu quU qzw quW qDG qBy qzU qzo quQ qzm quP qzq quR qBB qzV qzt quT qzs quF qBw quL quK qzj qBu qzk quO quH qBz qs6 qor qiG qf9 qk2 qhS qjw qja qjJ qjn qjD qjh qjF qjj qjG qjk qjH qjl qjI qjm qjy qjc qjE qji qjC qjg qjB qjf qjA qje qjz qjd qjx qjb qnV qnU qjK qjo qee qed qjL qjp qjM qjq qjR qjv qjQ qju qjP qjt qjO qjs qjN qjr qne qpg qqj qtN qqi qtM qnf qph qcZ qdJ qcL qcS qb8 qcG qd1 qeK qd0 qhA qiz qkV qij qhu qlv qh1 qh2 qtE qtD qtC qo5 qqf qtI qqh qtK qsI qsJ qqg qtJ qiS qlH qhK qfx qkQ qhJ qnl qpk qnm qpl qiU qlJ qiR qlG qnp qpo qnc qpe qno qpn qnb qpd qna qpc qnh qnj qni qnk qtL qiP qlF qiO qlE qnn qpm qgf qh7 qiN qlD qge qh6 qiJ qly qiK qlz qiL qlB qiM qlC qm5 qo7 qm6 qo8 qm8 qpa qm9 qpb qm7 qo9 qoh qoi qoQ qle qlf qhV qpq qlT qlU ql0 qlV ql1 qlW ql2 qlX ql3 qwv qAi qAk qwt qsm qwu qAj qCx qCw qCy qC2 qC3 qC1
attribute [go_sem] and_true true_and List.drop_zero List.drop_succ_cons List.getElem?_cons_zero List.getElem?_cons_succ Option.getD_some List.length_cons List.length_nil Int.toNat_natCast beq_true imp_self and_self implies_true Bool.and_true Bool.and_false Bool.or_false decide_eq_true_eq Bool.and_eq_true
theorem qmr(t:List AV)(h:List AObj):qak t h []=True:=rfl
theorem qig(t:List AV)(h:List AObj):zW t h []= []:=rfl
theorem qih(n:Nat)(l:List RV)(t:List AV)(h:List AObj):zW t h (.tmp n::l)=zh n t::zW t h l:=rfl
theorem qpF(v:AV):retA [v]=v:=rfl
theorem qpG(v u:AV)(l:List AV):retA (v::u::l)= .tup (v::u::l):=rfl
theorem qhB(c:Bool)(A B:Nx)(t:List AV)(h:List AObj):qfs (.bool c) A B t h=((c=true→A t h)∧(c=false→B t h)):=rfl
theorem qp{n:Int}(h0: -9223372036854775808≤n)(h1:n≤9223372036854775807):IntKind.i64.wrap n=n:=by
 have e1:(2:Int)^IntKind.bits IntKind.i64=18446744073709551616:=rfl;have e2:(2:Int)^(IntKind.bits IntKind.i64-1)=9223372036854775808:=rfl;have e3:IntKind.signed IntKind.i64=true:=rfl;unfold IntKind.wrap;rw[e1,e2,e3];simp only[Bool.true_and,decide_eq_true_eq];split<;>omega
theorem qk7{rs:List RV}{h0:List AObj}{K:AV→List AObj→Prop}{t:List AV}{hh tl:List AObj}{r:AV}(e:hh=h0++tl)(hok:qak t hh rs)(hK:K r h0)(hv:VLe (frz (fun k=>decide (h0.length≤k)) hh 8 (retA (zW t hh rs))) r):
  fnQ rs h0 K .ret t hh:=by subst e;exact qoJ hok hK hv
theorem qm{P:Program}{b:Nat}{x:C}{Q:Ex→Nx}{ι:Type}{t:List AV}{h:List AObj}(T:ι→List AV)(H:ι→List AObj)(inv:ι→Prop)(m:ι→Nat)(i0:ι)(h0:inv i0)(hw:Wk t h (T i0) (H i0))
  (round: ∀i,inv i→ ∀K:Nx,(∀t' h' j,inv j→m j<m i→Wk t' h' (T j) (H j)→K t' h')→qX P b x (Ex.andThen K Q) (T i) (H i)):qX P b (.loop x) Q t h:=by
 refine⟨fun n t h=> ∃i,inv i∧m i=n∧t=T i∧h=H i,⟨m i0,T i0,H i0,hw,i0,h0,rfl,rfl,rfl⟩,?_⟩;rintro n t' h' ⟨i,hi,rfl,rfl,rfl⟩;exact round i hi _ (fun t'' h'' j hj hlt hw=>⟨m j,T j,H j,hlt,hw,j,hj,rfl,rfl,rfl⟩)
def qI(n:Nat)(l:List (Nat×AV)):List AV:=l.foldl (fun t p=>ja p.1 t p.2) (List.replicate n .undef)
theorem qbn.nil:qbn [] []:=trivial
theorem qa(a:AV):VLe a .undef=True:=by simp[VLe.undef]
theorem qg(a:AV):VLe a a=True:=by simp[VLe.refl]
theorem qi{k:IntKind}{a b:Int}(h:a=b):VLe (.int k a) (.int k b):=h▸VLe.refl _
theorem qh:qbn [] []=True:=rfl
theorem qd{a b:AV}{l m:List AV}:qbn (a::l) (b::m)=(VLe a b∧qbn l m):=rfl
theorem qf{rs:List RV}{h:List AObj}{t:List AV}{r:AV}(hok:qak t h rs)(hv:VLe (frz (fun k=>decide (h.length≤k)) h 8 (retA (zW t h rs))) r):fnQ rs h (fun r1 h1=>r1=r∧h1=h) .ret t h:=
 qk7 (tl:= []) (by simp) hok ⟨rfl,rfl⟩ hv
theorem qb{rs:List RV}{h tl:List AObj}{t:List AV}{r:AV}(hok:qak t (h++tl) rs)(hv:VLe (frz (fun k=>decide (h.length≤k)) (h++tl) 8 (retA (zW t (h++tl) rs))) r):fnQ rs h (fun r1 h1=>r1=r∧h1=h) .ret t (h++tl):=
 qk7 rfl hok ⟨rfl,rfl⟩ hv
section
variable {fz : Nat → Bool} {h : List AObj} {n : Nat}
theorem frz_int{k:IntKind}{a:Int}:frz fz h (n+1) (.int k a)= .int k a:=rfl
theorem frz_bool{a:Bool}:frz fz h (n+1) (.bool a)= .bool a:=rfl
theorem frz_str{a:List UInt8}:frz fz h (n+1) (.str a)= .str a:=rfl
theorem frz_sl{m:Nat}{f:Nat→List AV}:frz fz h (n+1) (.sl m f)= .sl m f:=rfl
theorem frz_nl:frz fz h (n+1) .nl= .nl:=rfl
theorem frz_nilp:frz fz h (n+1) .nilp= .nilp:=rfl
theorem frz_nilfn:frz fz h (n+1) .nilfn= .nilfn:=rfl
theorem frz_ifc:frz fz h (n+1) .ifc= .ifc:=rfl
theorem frz_nilif:frz fz h (n+1) .nilif= .nilif:=rfl
theorem frz_undef:frz fz h (n+1) .undef= .undef:=rfl
theorem frz_ip{cs:List AV}:frz fz h (n+1) (.ip cs)= .ip cs:=rfl
theorem frz_agg{cs:List AV}:frz fz h (n+1) (.agg cs)= .agg (cs.map (frz fz h n)):=rfl
theorem frz_tup{cs:List AV}:frz fz h (n+1) (.tup cs)= .tup (cs.map (frz fz h n)):=rfl
theorem frz_fn{f:Fn}{a b:List AV}:frz fz h (n+1) (.fn f a b)= .fn f (a.map (frz fz h n)) (b.map (frz fz h n)):=rfl
theorem frz_gd{g:Bool}{v:AV}:frz fz h (n+1) (.gd g v)= .gd g (frz fz h n v):=rfl
end
attribute [go_sem] frz_int frz_bool frz_str frz_sl frz_nl frz_nilp frz_nilfn frz_ifc frz_nilif frz_undef frz_ip frz_agg frz_tup frz_fn frz_gd if_true if_false List.map_cons List.map_nil
attribute [go_sem] qhB qmr qig qih qpF qpG
end AF
end
section
namespace AF
open Go
section
variable {h : List AObj} {l : List AObj} {n k v : Nat} {o : AObj} {ty : TypeId} {cs : List AV}
theorem getO_app0:qH h.length (h++l)=l[0]? :=by unfold qH;rw[List.getElem?_append_right (Nat.le_refl _),Nat.sub_self]
theorem getO_app:qH (h.length+n) (h++l)=l[n]? :=by unfold qH;rw[List.getElem?_append_right (by omega),Nat.add_sub_cancel_left]
theorem setO_app0:zg h.length (h++l) o=h++l.set 0 o:=by unfold zg;rw[List.set_append_right _ _ (Nat.le_refl _),Nat.sub_self]
theorem setO_app:zg (h.length+n) (h++l) o=h++l.set n o:=by unfold zg;rw[List.set_append_right _ _ (by omega),Nat.add_sub_cancel_left]
theorem verOf_mem:qq (some (.mem v ty cs))=v:=rfl
theorem verOf_emp:qq (some (.emp v))=v:=rfl
theorem tyOf_mem:quz (some (.mem v ty cs))=ty:=rfl
theorem site_app:qz (h++l) (h.length+n)=qz l n:=by unfold qz;rw[getO_app];rfl
theorem site_app0:qz (h++l) h.length=qz l 0:=by unfold qz;rw[getO_app0];rfl
theorem site_0_mem{v:Nat}:qz (.mem v ty cs::l) 0=true:=rfl
theorem site_0_emp{v:Nat}:qz (.emp v::l) 0=true:=rfl
theorem site_s:qz (o::l) (n+1)=qz l n:=rfl
theorem cellsOf_app:cellsOf (h++l) (h.length+n) v=cellsOf l n v:=by unfold cellsOf;rw[getO_app];rfl
theorem cellsOf_app0:cellsOf (h++l) h.length v=cellsOf l 0 v:=by unfold cellsOf;rw[getO_app0];rfl
theorem cellsOf_0{w:Nat}:cellsOf (.mem w ty cs::l) 0 v=if w=v then some cs else none:=rfl
theorem cellsOf_s:cellsOf (o::l) (n+1) v=cellsOf l n v:=rfl
theorem liveS_app:jl (h++l) (h.length+n) v=jl l n v:=by unfold jl;rw[getO_app];rfl
theorem liveS_0_mem{w:Nat}:jl (.mem w ty cs::l) 0 v=(w==v):=rfl
theorem liveS_0_emp{w:Nat}:jl (.emp w::l) 0 v=(w==v):=rfl
theorem liveS_s:jl (o::l) (n+1) v=jl l n v:=rfl
theorem tyOk_mem{t:TypeId}:qqa (some (.mem v t cs)) ty=(t==ty):=rfl
theorem tyOk_emp:qqa (some (.emp v)) ty=true:=rfl
theorem b_add0{b:Nat}:b+0=b:=rfl
theorem appO_mem{t:TypeId}{ds:List AV}{c m:Nat}:qiX (some (.mem k t ds)) ty v c m cs= .mem (v+1) ty (ds.take c++cs):=rfl
theorem appO_emp{c m:Nat}:qiX (some (.emp k)) ty v c m cs=if m=0 then .emp (v+1) else .mem (v+1) ty cs:=rfl
end
section
variable {b : Nat} {h : List AObj} {t : List AV} {d : Option Nat} {nx : List AV → List AObj → Prop}
theorem qwF{j sz:Nat}{ty:TypeId}:jB b h (.nilo j sz ty) [] t d nx=(qz h (b+j)=true∧nx (qT t d (.osl (b+j) (qq (qH (b+j) h)+1) sz 0 0)) (zg (b+j) h (.emp (qq (qH (b+j) h)+1)))):=(rfl)
theorem qsR{j:Nat}{ty:TypeId}{z:List AV}:jB b h (.alloc j ty z) [] t d nx=(qz h (b+j)=true∧nx (qT t d (.op (b+j) (qq (qH (b+j) h)+1) 0)) (zg (b+j) h (.mem (qq (qH (b+j) h)+1) ty z))):=(rfl)
theorem qAr{j:Nat}{ty:TypeId}{v:AV}:jB b h (.box j ty) [v] t d nx=((qz h (b+j)=true∧v.solid=true)∧nx (qT t d (.op (b+j) (qq (qH (b+j) h)+1) 0)) (zg (b+j) h (.mem (qq (qH (b+j) h)+1) ty v.cells))):=(rfl)
theorem qsT{n k ver off:Nat}{v:AV}:jB b h (.store n) [.op k ver off,v] t d nx=(((cellsOf h k ver).isSome=true∧v.solid=true∧v.cells.length=n∧off+n≤((cellsOf h k ver).getD []).length)∧
  nx (qT t d (.tup [])) (zg k h (.mem ver (quz (qH k h)) (((cellsOf h k ver).getD []).take off++v.cells++((cellsOf h k ver).getD []).drop (off+n))))):=(rfl)
theorem qsS{j sz:Nat}{ty:TypeId}{z:List AV}{bytes:Nat}{l c:Int}:jB b h (.mkslc j sz ty z bytes) [.int .i64 l,.int .i64 c] t d nx=((qz h (b+j)=true∧z.length=sz∧0≤l∧l=c∧c*(bytes:Int)≤140737488355328∧c≤140737488355328)∧
   nx (qT t d (.osl (b+j) (qq (qH (b+j) h)+1) sz 0 l.toNat)) (zg (b+j) h (.mem (qq (qH (b+j) h)+1) ty (qS z l.toNat)))):=(rfl)
theorem qwE{j sz n:Nat}{ty:TypeId}{z:List AV}{ps:List (Nat×Nat)}{vs:List AV}:jB b h (.bslc j sz n ty z ps) vs t d nx=((qz h (b+j)=true∧z.length=sz∧qaf (n*sz) ps vs∧n≤140737488355328)∧
   nx (qT t d (.osl (b+j) (qq (qH (b+j) h)+1) sz 0 n)) (zg (b+j) h (.mem (qq (qH (b+j) h)+1) ty (qat (qS z n) ps vs)))):=by
 cases vs<;>rfl
theorem qAq{j sz:Nat}{ty:TypeId}{bytes k ver sz' off m:Nat}{y:AV}:jB b h (.app j sz ty bytes) [.osl k ver sz' off m,y] t d nx=(((qs h y).isSome=true∧jl h k ver=true∧qqa (qH k h) ty=true∧m*sz≤((cellsOf h k ver).getD []).length∧qck (.osl k ver sz' off m) y=true∧sz'=sz∧off=0∧
    ((qs h y).getD (0,[])).2.length=((qs h y).getD (0,[])).1*sz∧
    ((m+((qs h y).getD (0,[])).1:Nat):Int)*bytes≤140737488355328∧((m+((qs h y).getD (0,[])).1:Nat):Int)≤140737488355328)∧
   nx (qT t d (.osl k (ver+1) sz 0 (m+((qs h y).getD (0,[])).1)))
    (zg k h (qiX (qH k h) ty ver (m*sz) ((qs h y).getD (0,[])).1 ((qs h y).getD (0,[])).2))):=(rfl)
theorem qmb{n:Nat}{v:AV}:qT t (some n) v=ja n t v:=rfl
theorem qma{v:AV}:qT t none v=t:=rfl
theorem qdV:qs h .nl=some (0,[]):=rfl
theorem qdW{n:Nat}{f:Nat→List AV}:qs h (.sl n f)=some (n,(List.range n).flatMap f):=rfl
end
attribute [go_sem] getO_app0 getO_app setO_app0 setO_app verOf_mem verOf_emp tyOf_mem site_app site_app0 site_0_mem site_0_emp site_s cellsOf_app cellsOf_app0 cellsOf_0 cellsOf_s liveS_app liveS_0_mem liveS_0_emp liveS_s tyOk_mem tyOk_emp b_add0 appO_mem appO_emp
attribute [go_sem] qwF qsR qAr qsT qsS qwE qAq qmb qma qdV qdW
attribute [go_sem] List.set_cons_zero List.set_cons_succ Option.isSome_some List.take_zero List.take_succ_cons List.take_nil List.drop_nil List.nil_append List.cons_append List.append_nil Nat.reduceAdd Nat.reduceMul Nat.reduceSub Nat.reduceLeDiff Nat.reduceEqDiff Nat.zero_add
end AF
end
section
namespace AF
open Go
theorem qE{P:Program}{f:Nat}{p:Bool}{vs:List AV}{d:Option Nat}{nx:Nx}{t:List AV}{h:List AObj}{r:AV}(hc:ACalls P f (strips vs) h r h)(hf:flags vs)(hn:nx (qT t d r) h):qka P f p vs d nx t h:=
 ⟨hf,r,h,hc,fun _=>rfl,hn⟩
theorem qkb{P:Program}{f:Nat}{vs:List AV}{d:Option Nat}{nx:Nx}{t:List AV}{h h':List AObj}{r:AV}(hc:ACalls P f (strips vs) h r h')(hf:flags vs)(hn:nx (qT t d r) h'):qka P f false vs d nx t h:=
 ⟨hf,r,h',hc,by simp,hn⟩
theorem qL{P:Program}{f:Nat}{p g:Bool}{vs:List AV}{d:Option Nat}{nx:Nx}{t:List AV}{h:List AObj}{r:AV}(hc:g=true→flags vs∧ACalls P f (strips vs) h r h)(hn:nx (qT t d (.gd g r)) h):qkd P f p g vs d nx t h:=
 ⟨r,h,fun e=>⟨(hc e).1,(hc e).2,fun _=>rfl⟩,fun _=>rfl,hn⟩
theorem qBe{t:List AV}{h:List AObj}:qak t h []:=trivial
theorem qBf{t:List AV}{h:List AObj}{n:Nat}{l:List RV}(hl:qak t h l):qak t h (.tmp n::l):=⟨trivial,hl⟩
theorem qtf:flags []:=trivial
theorem qte{a:AV}{l:List AV}(h:a.flag=true)(t:flags l):flags (a::l):=⟨h,t⟩
theorem qk{P:Program}{f:Nat}{p:Bool}{vs:List AV}{d:Option Nat}{nx:Nx}{t:List AV}{h:List AObj}(r:AV)(hn:nx (qT t d (.gd false r)) h):qkd P f p false vs d nx t h:=by
 refine⟨r,h,?_,fun _=>rfl,hn⟩;intro e;cases e
theorem qe{a b:Bool}(h:a=b):VLe (.bool a) (.bool b):=h▸VLe.refl _
theorem qz6{a b:List UInt8}(h:a=b):VLe (.str a) (.str b):=h▸VLe.refl _
theorem qvh{n m:Nat}{f g:Nat→List AV}(e:n=m)(h: ∀i,i<m→f i=g i):VLe (.sl n f) (.sl m g):=by
 subst e;intro w σ x hx;have h1:=zC rfl hx;cases h1 with
 |nilsl=>exact .imm .nilsl
 |sl sz b off cap vals hn hm hb hlt hsz hc h1 hv=>
  refine .imm (.sl sz b off cap vals hn hm hb hlt (fun i hi=> ?_) hc h1 (fun i j c hi hj=> ?_))
  ·rw[←h i hi];exact hsz i hi
  ·rw[←h i hi]at hj;exact hv i j c hi hj
theorem jS{f:Nat→List AV}:VLe .nl (.sl 0 f):=by
 intro w σ x hx;have h1:=zC rfl hx;cases h1 with
 |nl=>exact .imm .nilsl
theorem zD{l m:List AV}(h:qbn l m):VLe (.tup l) (.tup m):=by
 intro w σ x hx;obtain⟨vs,rfl,hl,hv⟩:=qe6 hx;refine .tup (by rw[hl,h.length]) (fun i c x hc hx=> ?_);obtain⟨a,ha,hle⟩:=h.get i c hc;exact hle w σ x (hv i a x ha hx)
def qqx(v:AV)(h:List AObj)(m:Option Nat):Prop:=
 match v with
 | .op k ver off=>okL h (.load m) [.op k ver off]
 |_=>False
theorem qif{n:Nat}{m:Option Nat}{l:List RV}{t:List AV}{h:List AObj}:qak t h (.cell n m::l)=(qqx (zh n t) h m∧qak t h l):=rfl
theorem qfS{n:Nat}{m:Option Nat}{l:List RV}{t:List AV}{h:List AObj}:zW t h (.cell n m::l)=valL h (.load m) [zh n t]::zW t h l:=rfl
theorem qkh{k ver off:Nat}{h:List AObj}{m:Option Nat}:qqx (.op k ver off) h m=okL h (.load m) [.op k ver off]:=rfl
attribute [go_sem] qif qfS qkh
theorem qfj:jE [] [] []=some true:=rfl
attribute [go_sem] qfj Option.map_some Bool.true_bne Bool.false_bne Bool.bne_false
theorem qtP{a b:Bool}:(a|| !a&&b)=(a||b):=by cases a<;>simp
theorem qAa{a:Bool}:(a==false)= !a:=by cases a<;>rfl
attribute [go_sem] qtP qAa Bool.not_eq_true' Bool.or_eq_true decide_eq_false_iff_not Bool.or_eq_false_iff Bool.not_eq_false' Bool.and_eq_false_imp Bool.true_or Bool.or_true Bool.false_or Bool.true_and Bool.not_true Bool.not_false decide_not Bool.not_not
end AF
end
section
namespace AF
open Go
theorem qtj{rs:List RV}{h0 h' tl:List AObj}{K:AV→List AObj→Prop}{t:List AV}{r:AV}(hok:qak t (h'++tl) rs)(hl:h'.length=h0.length)(hlow: ∀o∈h',o∈h0∨qaj h0.length o)(hK:K r h')
  (hv:VLe (frz (fun k=>decide (h0.length≤k)) (h'++tl) 8 (retA (zW t (h'++tl) rs))) r):fnQ rs h0 K .ret t (h'++tl):=
 ⟨r,h',hK,hok,⟨tl,rfl⟩,hl,hlow,VOut.of 8 hv⟩
theorem qoI{rs:List RV}{h0 h' tl:List AObj}{K:AV→List AObj→Prop}{t:List AV}{r:AV}(hok:qak t (h'++tl) rs)(hl:h'.length=h0.length)(hlow: ∀o∈h',o∈h0∨qaj h0.length o)(hK:K r h')
  (hv:VLe (frz (fun k=>decide (h0.length≤k)) (h'++tl) 8 (retA (zW t (h'++tl) rs))) r):fnQ rs h0 K .normal t (h'++tl):=
 ⟨r,h',hK,hok,⟨tl,rfl⟩,hl,hlow,VOut.of 8 hv⟩
section
variable {k v : Nat} {h l : List AObj} {o o' : AObj} {ty : TypeId} {cs : List AV}
theorem qex(hk:k<h.length):qH k (h++l)=qH k h:=by unfold qH;rw[List.getElem?_append_left hk]
theorem qdF:(zg k h o).length=h.length:=by unfold zg;simp
theorem qey(hk:k<h.length):qH k (zg k h o)=some o:=by unfold qH zg;rw[List.getElem?_set_self hk]
theorem zj(e:qH k h=some (.mem v ty cs)):cellsOf h k v=some cs:=by unfold cellsOf;rw[e];simp
theorem kX(e:qH k h=some o):k<h.length:=by unfold qH at e;exact (List.getElem?_eq_some_iff.1 e).1
end
section
variable {k v w n : Nat} {h l : List AObj} {o o' : AObj} {ty : TypeId} {cs : List AV}
end
theorem retA_nil:retA []= .tup []:=rfl
attribute [go_sem] retA_nil
end AF
end
section
namespace AF
open Go
def qCc(c:Option (List AV))(g:AV→AV)(off:Nat):AV:=
 match c with
 |some cs=> .ip ((cs.drop off).map g)
 |none=> .undef
def qd9(o:Option AObj)(ver sz off len:Nat)(g:AV→AV):AV:=
 match o with
 |some (.mem ve _ cs)=>if ve=ver∧off+len*sz≤cs.length then .sl len (fun i=>((cs.drop (off+i*sz)).take sz).map g) else .undef
 |some (.emp ve)=>if ve=ver then .nl else .undef
 |_=> .undef
section
variable {fz : Nat → Bool} {h : List AObj} {n k ver sz off len : Nat}
theorem rei_op:rei fz h (n+1) (.op k ver off)=if fz k=true then qCc (cellsOf h k ver) (rei fz h n) off else .undef:=rfl
theorem rei_osl:rei fz h (n+1) (.osl k ver sz off len)=if fz k=true then qd9 (qH k h) ver sz off len (rei fz h n) else .undef:=rfl
theorem frz_op:frz fz h (n+1) (.op k ver off)=if fz k=true then rei fz h (n+1) (.op k ver off) else .op k ver off:=rfl
theorem frz_osl:frz fz h (n+1) (.osl k ver sz off len)=if fz k=true then rei fz h (n+1) (.osl k ver sz off len) else .osl k ver sz off len:=rfl
theorem ipOf_some{cs:List AV}{g:AV→AV}:qCc (some cs) g off= .ip ((cs.drop off).map g):=rfl
theorem slOf_mem{cs:List AV}{g:AV→AV}{ve:Nat}{ty:TypeId}:qd9 (some (.mem ve ty cs)) ver sz off len g=if ve=ver∧off+len*sz≤cs.length then .sl len (fun i=>((cs.drop (off+i*sz)).take sz).map g) else .undef:=rfl
theorem slOf_emp{g:AV→AV}{ve:Nat}:qd9 (some (.emp ve)) ver sz off len g=if ve=ver then .nl else .undef:=rfl
theorem rei_int{k:IntKind}{a:Int}:rei fz h (n+1) (.int k a)= .int k a:=rfl
theorem rei_bool{a:Bool}:rei fz h (n+1) (.bool a)= .bool a:=rfl
theorem rei_str{a:List UInt8}:rei fz h (n+1) (.str a)= .str a:=rfl
theorem rei_sl{m:Nat}{f:Nat→List AV}:rei fz h (n+1) (.sl m f)= .sl m f:=rfl
theorem rei_nl:rei fz h (n+1) .nl= .nl:=rfl
theorem rei_ip{cs:List AV}:rei fz h (n+1) (.ip cs)= .ip cs:=rfl
theorem rei_agg{cs:List AV}:rei fz h (n+1) (.agg cs)= .agg (cs.map (rei fz h n)):=rfl
theorem rei_tup{cs:List AV}:rei fz h (n+1) (.tup cs)= .tup (cs.map (rei fz h n)):=rfl
theorem rei_fn{f:Fn}{a b:List AV}:rei fz h (n+1) (.fn f a b)= .fn f (a.map (rei fz h n)) (b.map (rei fz h n)):=rfl
theorem rei_nilp:rei fz h (n+1) .nilp= .nilp:=rfl
theorem rei_undef:rei fz h (n+1) .undef= .undef:=rfl
end
attribute [go_sem] rei_op rei_osl frz_op frz_osl ipOf_some slOf_mem slOf_emp rei_int rei_bool rei_str rei_sl rei_nl rei_ip rei_agg rei_tup rei_fn rei_nilp rei_undef Nat.le_add_right Nat.le_refl Nat.mul_one Nat.one_mul
theorem qqm{P:Program}{b:Nat}{r:List RO}{K:Nx}{t:List AV}{h:List AObj}{d:Option Nat}{xs:List X}{j:Nat}{u:Bool}:qK P b (⟨d,some (j,u),.callv,xs⟩::r) K t h=
  (q9 (zh j t)=true∧(qM (zh j t) u=true→flags (evs t xs)∧qb1 P (strips (evs t xs)) d (qK P b r K) t h)∧(qM (zh j t) u=false→qK P b r K (qT t d .undef) h)):=by simp only[qK,qN,jZ,R.kd]
theorem qke{P:Program}{k:Nat}{args:List AV}{d:Option Nat}{nx:Nx}{t:List AV}{h:List AObj}:qb1 P (.yld k::args) d nx t h=((∃s ts L,qH k h=some (.lp s ts L))∧ku P k args h fun v h'=>nx (qT t d v) h'):=(rfl)
theorem qc0:valP (.un .not) [.undef]= .bool true:=rfl
theorem qlY{g q:Bool}:jK (.bool false) (.gd g .undef) (.bool q)= .bool q:=rfl
attribute [go_sem] qqm qke qc0 qlY true_implies false_implies Bool.false_eq_true Bool.true_eq_false
end AF
end
section
namespace AF
open Go
theorem qlK{P:Program}{b:Nat}{l:List RO}: ∀ {nx nx':Nx} {t:List AV} {h:List AObj},(∀t h,nx t h→nx' t h)→qK P b l nx t h→qK P b l nx' t h:=by
 induction l with
 |nil=>intro nx nx' t h hn H;exact hn _ _ H
 |cons o l ih=>intro nx nx' t h hn H;exact jP (fun t h H=>ih hn H) H
theorem qdP{h0:List AObj}{t:List AV}{Q Q':Ex→Nx}{h:List AObj}(hq: ∀e t h,Q e t h→Q' e t h)(H:qdO h0 t Q h):qdO h0 t Q' h:=by
 obtain⟨hh,s,ts,L,h1,h2,h3,h4⟩:=H;refine⟨hh,s,ts,L,h1,h2,h3,?_⟩;cases s with
 |ready=>exact hq _ _ _ h4
 |ret=>exact hq _ _ _ h4
 |exit id=>exact hq _ _ _ h4
 |busy=>exact h4
theorem qaB{P:Program}{b:Nat}{x:C}: ∀ {Q Q':Ex→Nx} {t:List AV} {h:List AObj},(∀e t h,Q e t h→Q' e t h)→qX P b x Q t h→qX P b x Q' t h:=by
 induction x with
 |skip=>intro Q Q' t h hq H;exact hq _ _ _ H
 |ops l=>intro Q Q' t h hq H;exact qlK (fun t h H=>hq _ _ _ H) H
 |seq x y ihx ihy=>
  intro Q Q' t h hq H;refine ihx (fun e t h H=> ?_) H;cases e with
  |normal=>exact ihy hq H
  |exit id=>exact hq _ _ _ H
  |ret=>exact hq _ _ _ H
 |cond c x y ihx ihy=>
  intro Q Q' t h hq H;simp only[qX,qfs]at*;split at H
  ·exact⟨fun e=>ihx hq (H.1 e),fun e=>ihy hq (H.2 e)⟩
  ·exact⟨ihx hq H.1,ihy hq H.2⟩
  ·exact H.elim
 |block id x ih=>
  intro Q Q' t h hq H;refine ih (fun e t h H=> ?_) H;cases e with
  |normal=>exact hq _ _ _ H
  |ret=>exact hq _ _ _ H
  |exit i=>
   simp only[Ex.inBlock]at*;split
   ·rename_i e;rw[if_pos e]at H;exact hq _ _ _ H
   ·rename_i e;rw[if_neg e]at H;exact hq _ _ _ H
 |loop x ih=>
  intro Q Q' t h hq H;obtain⟨I,h1,h2⟩:=H;refine⟨I,h1,fun n t' h' hi=>ih (fun e t h H=> ?_) (h2 n t' h' hi)⟩;cases e with
  |normal=>exact H
  |exit id=>exact hq _ _ _ H
  |ret=>exact hq _ _ _ H
 |range u ps x y ihx ihy=>
  intro Q Q' t h hq H L hy
  have:=H L hy
  split at this
  ·exact this.le (qbn.refl _) (fun v h' hr=>⟨v,VLe.refl _,qdP hq hr⟩)
  ·exact this
 |exit id=>intro Q Q' t h hq H;exact hq _ _ _ H
 |ret=>intro Q Q' t h hq H;exact hq _ _ _ H
 |wk=>
  intro Q Q' t h hq H;obtain⟨t',h',h1,h2⟩:=H;exact⟨t',h',h1,hq _ _ _ h2⟩
 |draw d=>
  intro Q Q' t h hq H;obtain⟨M,h1,h2⟩:=H;exact⟨M,h1,fun t' h' hm=>hq _ _ _ (h2 t' h' hm)⟩
 |bad=>intro Q Q' t h hq H;exact H
def quq(o:Option AObj)(ver sz off n:Nat):Option (Nat×List AV):=
 match o with
 |some (.mem v _ cs)=>if v=ver∧off+n*sz≤cs.length then some (n,(cs.drop off).take (n*sz)) else none
 |some (.emp v)=>if v=ver∧n=0 then some (0,[]) else none
 |_=>none
theorem qcX{h:List AObj}{k ver sz off n:Nat}:qs h (.osl k ver sz off n)=quq (qH k h) ver sz off n:=rfl
theorem qmz{v ver sz off n:Nat}{ty:TypeId}{cs:List AV}:quq (some (.mem v ty cs)) ver sz off n=if v=ver∧off+n*sz≤cs.length then some (n,(cs.drop off).take (n*sz)) else none:=rfl
theorem qmy{v ver sz off n:Nat}:quq (some (.emp v)) ver sz off n=if v=ver∧n=0 then some (0,[]) else none:=rfl
theorem qhp{k v z p n k' v' z' p' n':Nat}:qck (.osl k v z p n) (.osl k' v' z' p' n')=(k !=k'):=rfl
theorem qi4{k v z p n m:Nat}{f:Nat→List AV}:qck (.osl k v z p n) (.sl m f)=true:=rfl
theorem qi3{k v z p n:Nat}:qck (.osl k v z p n) .nl=true:=rfl
attribute [go_sem] Int.toNat_zero decide_true decide_false beq_self_eq_true
attribute [go_sem] qcX qmz qmy qhp qi4 qi3
theorem qgd{g:List AObj}{z:Nat}{i:AV}:valL g (.idxA z) [.nl,i]= .undef:=rfl
theorem qcK{g:List AObj}{n:Option Nat}:valL g (.load n) [.undef]= .undef:=rfl
theorem qcY{g:List AObj}{n:Nat}:valL g (.fldA n) [.undef]= .undef:=rfl
theorem qhr{op:BinOp}{y:AV}:qaI op .undef y= .undef:=rfl
theorem ql4{p g:Bool}:jK (.bool true) (.bool p) (.gd g .undef)= .bool p:=rfl
theorem qlZ{p g:Bool}:jK (.bool false) (.gd g .undef) (.bool p)= .bool p:=rfl
attribute [go_sem] qgd qcK qcY qhr ql4 qlZ
theorem qsn{P:Program}{b:Nat}{u:X}{ps:List Nat}{x y:C}{Q:Ex→Nx}{t:List AV}{h:List AObj}:qX P b (.range u ps x y) Q t h=qeO P (ev t u) ps (qX P b x) (qX P b y) Q t h:=(rfl)
attribute [go_sem] qsn
end AF
end
section
namespace AF
open Go
theorem HR.move{w:World}{σ:List OB}{h:List AObj}(H:HR w σ h){k j vj:Nat}{ty:TypeId}{cs:List AV}(hj:qH j h=some (.mem vj ty cs))(hk:qz h k=true)(hne:k≠j):
  ∃σ',HR w σ' (zg k (zg j h (.emp (vj+1))) (.mem (qq (qH k h)+1) ty cs))∧Ext w σ w σ'∧
   ∀sz off len x,VR w σ (.osl j vj sz off len) x→VR w σ' (.osl k (qq (qH k h)+1) sz off len) x:=by
 obtain⟨ok,hok,hver⟩:=zP H hk;have hjl:j<σ.length:=by rw[H.len];exact kX hj
 have hkl:k<σ.length:=(List.getElem?_eq_some_iff.1 hok).1;obtain⟨oj,hoj⟩: ∃oj,σ[j]? =some oj:=⟨_,List.getElem?_eq_getElem hjl⟩
 have hobj:=H.obj j _ oj hj hoj;obtain⟨m1,m2,b,arr,m3,m4,m5,m6,m7,m8⟩:=hobj;rw[hver]
 let oj':OB:= { oj with blk:=none,ver:=oj.ver+1 }
 let ok':OB:= { oj with ver:=ok.ver+1 }
 let σ':=(σ.set j oj').set k ok'
 have gk:σ'[k]? =some ok':=by simp[σ',hkl]
 have gj:σ'[j]? =some oj':=by simp only[σ'];rw[List.getElem?_set_ne hne];simp[hjl]
 have go: ∀i,i≠k→i≠j→σ'[i]? =σ[i]? :=by
  intro i h1 h2;simp only[σ'];rw[List.getElem?_set_ne (fun e=>h1 e.symm),List.getElem?_set_ne (fun e=>h2 e.symm)]
 have blk: ∀(i:Nat) (o:OB) (b:Nat),σ'[i]? =some o→o.blk=some b→(i=k∧oj.blk=some b)∨(i≠k∧i≠j∧σ[i]? =some o):=by
  intro i o b h1 h2
  by_cases e1:i=k
  ·subst e1;rw[gk]at h1;cases h1;exact .inl ⟨rfl,h2⟩
  ·by_cases e2:i=j
   ·subst e2;rw[gj]at h1;cases h1;cases h2
   ·rw[go i e1 e2]at h1;exact .inr ⟨e1,e2,h1⟩
 have hext:Ext w σ w σ':=by
  refine⟨rfl,rfl,rfl,Nat.le_refl _,fun _ _ _=>rfl,?_,?_,fun b r h=>⟨r,h⟩⟩
  ·rintro b ⟨i,o,h1,h2⟩;rcases blk i o b h1 h2 with⟨_,h3⟩|⟨_,_,h3⟩
   ·exact .inl ⟨j,oj,hoj,h3⟩
   ·exact .inl ⟨i,o,h3,h2⟩
  ·intro i o h1
   by_cases e1:i=k
   ·subst e1;rw[hok]at h1;cases h1;exact⟨ok',gk,by simp[ok'],by simp[ok']⟩
   ·by_cases e2:i=j
    ·subst e2;rw[hoj]at h1;cases h1;exact⟨oj',gj,by simp[oj'],by simp[oj']⟩
    ·exact⟨o,by rw[go i e1 e2];exact h1,Nat.le_refl _,fun _=>rfl⟩
 refine⟨σ',⟨by simp[σ',zg,H.len],?_,?_,?_⟩,hext,?_⟩
 ·intro i i' o o' b h1 h2 h3 h4;rcases blk i o b h1 h3 with⟨rfl,g1⟩|⟨g0,g1,g2⟩<;>rcases blk i' o' b h2 h4 with⟨rfl,g1'⟩|⟨g0',g1',g2'⟩
  ·rfl
  ·exact absurd (H.inj i' j o' oj b g2' hoj h4 g1) g1'
  ·exact absurd (H.inj i j o oj b g2 hoj h3 g1') g1
  ·exact H.inj i i' o o' b g2 g2' h3 h4
 ·intro i o b h1 h2;rcases blk i o b h1 h2 with⟨_,g1⟩|⟨_,_,g2⟩
  ·exact H.lt j oj b hoj g1
  ·exact H.lt i o b g2 h2
 ·intro i a o ha ho
  by_cases e1:i=k
  ·subst e1;have hkh:i<(zg j h (.emp (vj+1))).length:=by rw[qdF,←H.len];exact hkl
   have:=qey (o:= .mem (ok.ver+1) ty cs) hkh
   unfold qH at this;rw[this]at ha;cases ha;rw[gk]at ho;cases ho;exact⟨rfl,m2,b,arr,m3,m4,m5,m6,m7,fun i c x hc hx=>(m8 i c x hc hx).ext hext⟩
  ·by_cases e2:i=j
   ·subst e2;have hjh:i<h.length:=by rw[←H.len];exact hjl
    simp only[zg]at ha;rw[List.getElem?_set_ne hne,List.getElem?_set_self hjh]at ha;cases ha;rw[gj]at ho;cases ho;exact⟨by simp[oj',m1],rfl⟩
   ·rw[go i e1 e2]at ho;simp only[zg]at ha;rw[List.getElem?_set_ne (fun e=>e1 e.symm),List.getElem?_set_ne (fun e=>e2 e.symm)]at ha;exact (H.obj i a o ha ho).ext hext (fun _ _=>rfl)
 ·intro sz off len x hx;cases hx with
  |imm h=>cases h
  |osl o ho hs hle hh=>
   rw[hoj]at ho;cases ho;refine .osl ok' gk hs (Nat.le_refl _) (fun _=> ?_);exact hh m1
end AF
end
section
namespace AF
open Go
section
variable {P : Program} {b : Nat} {r : List RO} {K : Nx} {t : List AV} {h : List AObj} {d : Option Nat} {xs : List X} {j : Nat} {u : Bool}
end
end AF
end
section
namespace AF
open Go
def qkk(o:Option AObj)(ver:Nat):Option (List AV):=
 match o with
 |some (.mem v _ cs)=>if v=ver then some cs else none
 |_=>none
def qrg(o:Option AObj)(ver:Nat):Bool:=
 match o with
 |some (.mem v _ _)=>v==ver
 |some (.emp v)=>v==ver
 |_=>false
section
variable {h l : List AObj} {i j k ver v : Nat} {o o' o'' : AObj} {ty : TypeId} {cs : List AV}
theorem kU:cellsOf h k ver=qkk (qH k h) ver:=rfl
theorem qeH:jl h k ver=qrg (qH k h) ver:=rfl
theorem kT:qkk (some (.mem v ty cs)) ver=if v=ver then some cs else none:=rfl
theorem qdd:qrg (some (.mem v ty cs)) ver=(v==ver):=rfl
theorem qbO(hne:k≠j):qH k (zg j h o)=qH k h:=by unfold qH zg;rw[List.getElem?_set_ne (fun e=>hne e.symm)]
end
end AF
end
section
namespace AF
open Go
theorem qbc{α β:Type}{f:α→Option β}: ∀ {l:List α} {ys:List β},l.mapM f=some ys→ys.length=l.length∧ ∀(i:Nat) x y,l[i]? =some x→ys[i]? =some y→f x=some y:=by
 intro l
 induction l with
 |nil=>intro ys h;simp at h;subst h;simp
 |cons a l ih=>
  intro ys h;rw[List.mapM_cons]at h;cases ha:f a with
  |none=>simp[ha]at h
  |some b=>
   cases hl:l.mapM f with
   |none=>simp[ha,hl]at h
   |some zs=>
    simp[ha,hl]at h;subst h;obtain⟨h1,h2⟩:=ih hl;refine⟨by simp[h1],fun i x y hx hy=> ?_⟩;cases i with
    |zero=>simp at hx hy;subst hx hy;exact ha
    |succ i=>exact h2 i x y (by simpa using hx) (by simpa using hy)
section
variable {H : Type} {enc : TypeId × Value → H} {P : Program} {w : World} {sp : Nat → Bool} {held : Bool} {ow : Nat → Prop}
end
theorem HR.nil(w:World):HR w [] []:=⟨rfl,by simp,by simp,by simp⟩
theorem qtS(b:Nat): ¬own [] b:=fun ⟨k,o,h,_⟩=>by simp at h
theorem VRs.nil'{w:World}{σ:List OB}:VRs w σ [] []:=⟨rfl,by simp⟩
theorem VRs.cons'{w:World}{σ:List OB}{a:AV}{v:Value}{as:List AV}{vs:List Value}(h:VR w σ a v)(h':VRs w σ as vs):VRs w σ (a::as) (v::vs):=by
 refine⟨by simp[h'.1],fun i c x hc hx=> ?_⟩;cases i with
 |zero=>simp at hc hx;subst hc hx;exact h
 |succ i=>exact h'.2 i c x (by simpa using hc) (by simpa using hx)
end AF
end
section
namespace AF
open Go Go.ChangeShapes Go.WideShapes Go.ChangeAt Go.RowKit
section
variable {H : Type} {enc : TypeId × Value → H} {P : Program} {W W' : World}
theorem qe4(hl:laidOutB P=true)(hb:Below W.heap.size W W'): ∀ {ts:List TypeId} {vs:List Value} {ds:List (DataW H)} {ps:List MemPlace},(∀t∈ts,P.readableRec t=true∧t<P.types.size)→
  (∀x∈ps,x.block<W.heap.size)→DataW.TrodAll enc P W 0 (fun _=>true) true ts vs ds ps→DataW.TrodAll enc P W' 0 (fun b=>decide (b<W.heap.size)) true ts vs ds ps:=by
 intro ts
 induction ts with
 |nil=>
  intro vs ds ps _ _ h
  match vs,ds,h with
  | [],[],h=>exact h
 |cons t ts ih=>
  intro vs ds ps ht hp h
  match vs,ds,h with
  |v::vs,d::ds,⟨p,q,h1,h2,e⟩=>
   subst e;refine⟨p,q,?_,?_,rfl⟩
   ·exact Below.trod hl (ht t (by simp)).1 (ht t (by simp)).2 h1 hb (fun x hx=>hp x (by simp[hx]))
   ·exact ih (fun u hu=>ht u (by simp[hu])) (fun x hx=>hp x (by simp[hx])) h2
theorem qo0{f:Func}{s:ChangeSpec}{args:Array Value}{ds:List (DataW H)}{before:List MemPlace}{tb:TypeId}(hl:laidOutB P=true)(hv:s.vars= [])(hfn:s.fn H ds= { results:= [.lit (.bool true)],args:=ds })
  (hrt:f.resultTypes= #[tb]) (htb:P.underlying tb=some .bool) (hro: ∀t∈f.params.toList,P.readableRec t=true∧t<P.types.size)
  (hW:DataW.Whole enc P f.params.toList s.vars false W args.toList ds [] before) (hA:DataW.TrodAll enc P W 0 (fun _=>true) true f.params.toList args.toList ds before) (hb:Below W.heap.size W W'):
  s.post enc P f false true false false W args (.bool true) W':=by
 have hlt: ∀x∈before,x.block<W.heap.size:=fun x hx=>hW.lt x hx
 refine⟨ds,[],before,[],before,[],hW,?_,?_,?_,?_,fun h=>by cases h⟩
 ·rw[List.append_nil,hfn,hrt];exact⟨[],[],shut_bool htb true,rfl,rfl⟩
 ·rw[List.append_nil,hfn];exact qe4 hl hb hro hlt hA
 ·rw[List.append_nil,hfn,hv];rfl
 ·exact World.keptBut_mono (fun x hx=>⟨hx,.inr (.inl hx)⟩) (hb.frame (· ∈before))
end
end AF
end
section
namespace AF
open Go
def qp9(P:Program):Nat→List Field→Option Nat
 |n,[]=>some n
 |n,f::r=>if f.offset=n then qp9 P (n+P.cellsOf f.type) r else none
def qbS(P:Program):Nat→TypeId→Bool
 |0,_=>false
 |d+1,t=>match P.underlying t with
  |some .bool=>decide (P.cellsOf t=1)
  |some (.int _)=>decide (P.cellsOf t=1)
  |some .string=>decide (P.cellsOf t=1)
  |some (.slice e)=>decide (P.cellsOf t=1)&&(decide (0<P.cellsOf e)&&qbS P d e)
  |some (.struct fs)=>decide (qp9 P 0 fs.toList=some (P.cellsOf t))&&fs.toList.all fun f=>qbS P d f.type
  |_=>false
def zy(P:Program):Nat→TypeId→List AV→Prop
 |0,_,_=>False
 |d+1,t,as=>match P.underlying t with
  |some .bool=> ∃b,as= [.bool b]
  |some (.int k)=> ∃n,as= [.int k n]∧(Lit.int k n).wf=true
  |some .string=> ∃s:List UInt8,as= [.str s]∧s.length≤maxLen
  |some (.slice e)=> ∃(n:Nat) (f:Nat→List AV),as= [.sl n f]∧n≤maxLen∧ ∀i,i<n→zy P d e (f i)
  |some (.struct fs)=>as.length=P.cellsOf t∧ ∀f∈fs.toList,zy P d f.type ((as.drop f.offset).take (P.cellsOf f.type))
  |_=>False
section
variable {H : Type} {enc : TypeId × Value → H} {P : Program} {w : World} {held : Bool} {ow : Nat → Prop}
structure qao (w:World) (ow:Nat→Prop) (as:List AV) (cs:List Value):Prop where
 len:cs.length=as.length
 one: ∀(i:Nat) v,cs[i]? =some v→v.oneCell'=true
 vi: ∀(i:Nat) c v,as[i]? =some c→cs[i]? =some v→VI w ow c v
theorem qao.single{a:AV}{v:Value}(h1:v.oneCell'=true)(h2:VI w ow a v):qao w ow [a] [v]:=by
 refine⟨rfl,fun i x hx=> ?_,fun i c x hc hx=> ?_⟩
 ·cases i<;>simp at hx;subst hx;exact h1
 ·cases i<;>simp at hx hc;subst hx hc;exact h2
theorem qao.append{as bs:List AV}{cs ds:List Value}(h:qao w ow as cs)(h':qao w ow bs ds):qao w ow (as++bs) (cs++ds):=by
 have hl:=h.len;refine⟨by simp[hl,h'.len],fun i v hv=> ?_,fun i c v hc hv=> ?_⟩
 ·rw[List.getElem?_append]at hv;split at hv
  ·exact h.one i v hv
  ·exact h'.one _ v hv
 ·rw[List.getElem?_append]at hc hv;split at hv
  ·rename_i hi;rw[if_pos (by omega)]at hc;exact h.vi i c v hc hv
  ·rename_i hi;rw[if_neg (by omega),←hl]at hc;exact h'.vi _ c v hc hv
theorem qfw{d fuel:Nat}(ih: ∀(t:TypeId) (cs:List Value) (dd:DataW H) (ps:List MemPlace),qbS P d t=true→DataW.trod enc P w 0 (fun _=>true) held fuel t cs=some (dd,ps)→ ∃as,zy P d t as∧as.length=P.cellsOf t∧qao w ow as cs){cs:List Value}:
  ∀(fs:List Field) (n m:Nat) (xs:List (DataW H×List MemPlace)),qp9 P n fs=some m→(∀f∈fs,qbS P d f.type=true)→m≤cs.length→
   fs.mapM (fun f=>DataW.trod enc P w 0 (fun _=>true) held fuel f.type ((cs.drop f.offset).take (P.cellsOf f.type)))=some xs→
   n≤m∧ ∃as,(∀f∈fs,n≤f.offset∧zy P d f.type ((as.drop (f.offset-n)).take (P.cellsOf f.type)))∧as.length=m-n∧qao w ow as ((cs.drop n).take (m-n)):=by
 intro fs
 induction fs with
 |nil=>
  intro n m xs ht _ hm _;cases ht;exact⟨Nat.le_refl _,[],by simp,by simp,⟨by simp,by simp,by simp⟩⟩
 |cons f r ihr=>
  intro n m xs ht hk hm hx;simp only[qp9]at ht;split at ht
  ·rename_i hoff;rw[List.mapM_cons]at hx;cases ha:DataW.trod enc P w 0 (fun _=>true) held fuel f.type ((cs.drop f.offset).take (P.cellsOf f.type))with
   |none=>simp[ha]at hx
   |some y=>
    cases hl:r.mapM (fun f=>DataW.trod enc P w 0 (fun _=>true) held fuel f.type ((cs.drop f.offset).take (P.cellsOf f.type)))with
    |none=>simp[ha,hl]at hx
    |some zs=>
     obtain⟨g0,as1,g1,g2,g3⟩:=ihr (n+P.cellsOf f.type) m zs ht (fun g hg=>hk g (by simp[hg])) hm hl;obtain⟨as0,k1,k2,k3⟩:=ih f.type _ y.1 y.2 (hk f (by simp)) (by rw[ha]);rw[hoff]at k3;refine⟨by omega,as0++as1,fun g hg=> ?_,by rw[List.length_append,k2,g2];omega,?_⟩
     ·rcases List.mem_cons.1 hg with rfl|hg
      ·refine⟨by omega,?_⟩;rw[hoff,Nat.sub_self,List.drop_zero,List.take_append_of_le_length (by omega),List.take_of_length_le (by omega)];exact k1
      ·obtain⟨q1,q2⟩:=g1 g hg;refine⟨by omega,?_⟩;rw[List.drop_append,List.drop_of_length_le (by omega),List.nil_append,show g.offset-n-as0.length=g.offset-(n+P.cellsOf f.type) by omega];exact q2
     ·have e:(cs.drop n).take (m-n)=(cs.drop n).take (P.cellsOf f.type)++(cs.drop (n+P.cellsOf f.type)).take (m-(n+P.cellsOf f.type)):=by
       rw[show m-n=P.cellsOf f.type+(m-(n+P.cellsOf f.type)) by omega,List.take_add,List.drop_drop]
      rw[e];exact k3.append g3
  ·cases ht
theorem qmL{a:Addr}{v:Value}(h:w.cell? a=some v): ∃b off,a=⟨b,off,none⟩∧b<w.heap.size:=by
 obtain⟨b,off,spot⟩:=a;unfold World.cell? at h;split at h
 ·rename_i c e f hb;split at h
  ·cases h
  ·rename_i hs;cases spot with
   |some _=>simp at hs
   |none=>exact⟨b,off,rfl,(Array.getElem?_eq_some_iff.1 hb).1⟩
 ·cases h
theorem qkH(how: ∀b,¬ow b): ∀(d fuel:Nat) (t:TypeId) (cs:List Value) (dd:DataW H) (ps:List MemPlace),qbS P d t=true→DataW.trod enc P w 0 (fun _=>true) held fuel t cs=some (dd,ps)→
  ∃as,zy P d t as∧as.length=P.cellsOf t∧qao w ow as cs:=by
 intro d
 induction d with
 |zero=>intro fuel t cs dd ps hk;cases hk
 |succ d ih=>
  intro fuel t cs dd ps hk h;unfold qbS at hk;unfold zy;split at hk
  ·rename_i ht;have hc:=of_decide_eq_true hk;obtain⟨b,rfl,_⟩:=DataW.trod_bool ht h;exact⟨[.bool b],⟨b,rfl⟩,hc.symm,qao.single rfl .bool⟩
  ·rename_i k ht;have hc:=of_decide_eq_true hk;obtain⟨n,rfl,_,hw⟩:=DataW.trod_int ht h;exact⟨[.int k n],⟨n,rfl,hw⟩,hc.symm,qao.single rfl .int⟩
  ·rename_i ht;have hc:=of_decide_eq_true hk;obtain⟨s,rfl,_,hw⟩:=DataW.trod_string ht h;have hsz:s.data.toList.length≤maxLen:=by rw[Array.length_toList];exact hw
   exact⟨[.str s.data.toList],⟨_,rfl,hsz⟩,hc.symm,qao.single rfl (by have:= @VI.str w ow s.data.toList;rw[Array.toArray_toList]at this;exact this)⟩
  ·rename_i e ht;simp only[Bool.and_eq_true,decide_eq_true_eq]at hk;obtain⟨hc,hpos,hk⟩:=hk;cases fuel with
   |zero=>simp[DataW.trod]at h
   |succ fuel=>
    have hcs:(cs= [.slice none 0 0])∨ ∃a len cap,cs= [.slice (some a) len cap]:=by
     unfold DataW.trod at h;rw[ht]at h;split at h<;>first|(rename_i g _;cases g;done)|skip
     all_goals first|(rename_i g;cases g;done)|skip
     all_goals first|exact .inl rfl|exact .inr ⟨_,_,_,rfl⟩|(cases h;done)
    rcases hcs with rfl|⟨a,len,cap,rfl⟩
    ·exact⟨[.sl 0 fun _=> []],⟨0,fun _=> [],rfl,Nat.zero_le _,fun i hi=>absurd hi (Nat.not_lt_zero _)⟩,hc.symm,qao.single rfl .nilsl⟩
    ·simp only[DataW.trod,ht]at h;split at h
     ·rename_i hcc;obtain⟨_,c1,c2⟩:=hcc;rw[Option.bind_eq_some_iff]at h;obtain⟨elems,hm,hrest⟩:=h;rw[Option.map_eq_some_iff]at hrest;obtain⟨rest,hrest,_⟩:=hrest
      try simp only[if_true]at hrest
      obtain⟨m1,m2⟩:=qbc hm;obtain⟨r1,r2⟩:=qbc hrest;simp only[List.length_range]at m1 r1;have all: ∀i,i<cap→ ∃x,((w.cells? 0 (a.add (i*P.cellsOf e)) (P.cellsOf e)).bind (DataW.trod enc P w 0 (fun _=>true) held fuel e))=some x:=by
       intro i hi
       by_cases hl:i<len
       ·exact⟨_,m2 i i _ (by simp[hl]) (List.getElem?_eq_getElem (by omega))⟩
       ·have:=r2 (i-len) (i-len) _ (by rw[List.getElem?_range (by omega)]) (List.getElem?_eq_getElem (by omega))
        rw[show len+(i-len)=i by omega]at this;exact⟨_,this⟩
      by_cases hcap:cap=0
      ·subst hcap
       have:len=0:=by omega
       subst this;exact⟨[.sl 0 fun _=> []],⟨0,fun _=> [],rfl,Nat.zero_le _,fun i hi=>absurd hi (Nat.not_lt_zero _)⟩,hc.symm,qao.single rfl .nilsl⟩
      ·obtain⟨x0,h0⟩:=all 0 (by omega);rw[Option.bind_eq_some_iff]at h0;obtain⟨cs0,h0,_⟩:=h0;rw[Nat.zero_mul]at h0;have hadd0:a.add 0=a:=by simp[Addr.add]
       rw[hadd0]at h0;unfold World.cells? at h0;rw[if_pos (Nat.zero_le _)]at h0;obtain⟨n1,n2⟩:=qbc h0;simp only[List.length_range]at n1;have hcell:=n2 0 0 _ (by simp[hpos]) (List.getElem?_eq_getElem (show 0<cs0.length by omega));rw[hadd0]at hcell;obtain⟨b,off,rfl,hlt⟩:=qmL hcell;have hadd: ∀n,(⟨b,off,none⟩:Addr).add n=⟨b,off+n,none⟩:=by
        intro n;unfold Addr.add;split
        ·rename_i h;subst h;rfl
        ·rfl
       have hadd2: ∀n m,(⟨b,off+n,none⟩:Addr).add m=⟨b,off+n+m,none⟩:=by
        intro n m;unfold Addr.add;split
        ·rename_i h;subst h;rfl
        ·rfl
       have key: ∀i,i<len→ ∃(as:List AV) (cs:List Value),zy P d e as∧as.length=P.cellsOf e∧qao w ow as cs∧(∀(j:Nat) v,cs[j]? =some v→w.cell? ⟨b,off+i*P.cellsOf e+j,none⟩=some v):=by
        intro i hi;obtain⟨x,hx⟩:=all i (by omega);rw[Option.bind_eq_some_iff]at hx;obtain⟨cs,h3,h4⟩:=hx;obtain⟨as,f1,f2,f3⟩:=ih fuel e cs x.1 x.2 hk h4;rw[hadd]at h3;unfold World.cells? at h3;rw[if_pos (Nat.zero_le _)]at h3;obtain⟨n1,n2⟩:=qbc h3;simp only[List.length_range]at n1;refine⟨as,cs,f1,f2,f3,fun j v hj=> ?_⟩;have hjl:j<P.cellsOf e:=by have:=(List.getElem?_eq_some_iff.1 hj).1;omega
        have:=n2 j j v (by simp[hjl]) hj
        rw[hadd2]at this;exact this
       have ex: ∃g:Nat→List AV×List Value,∀i,i<len→zy P d e (g i).1∧(g i).1.length=P.cellsOf e∧qao w ow (g i).1 (g i).2∧(∀(j:Nat) v,(g i).2[j]? =some v→w.cell? ⟨b,off+i*P.cellsOf e+j,none⟩=some v):=by
        refine⟨fun i=>if hi:i<len then ((key i hi).choose,(key i hi).choose_spec.choose) else ([],[]),fun i hi=> ?_⟩;simp only[dif_pos hi];exact (key i hi).choose_spec.choose_spec
       obtain⟨g,hg⟩:=ex;refine⟨[.sl len fun i=>(g i).1],⟨len,fun i=>(g i).1,rfl,Nat.le_trans c1 c2,fun i hi=>(hg i hi).1⟩,hc.symm,qao.single rfl (.sl (P.cellsOf e) b off cap (fun i j=>(g i).2.getD j Go.undef) c1 c2 (fun _=>how b) hlt (fun i hi=>(hg i hi).2.1) (fun i j hi hj=> ?_) (fun i j hi hj=> ?_) (fun i j c hi hc=> ?_))⟩
       ·obtain⟨_,q2,q3,q4⟩:=hg i hi;have hl:=q3.len;have e:(g i).2[j]? =some (g i).2[j]:=List.getElem?_eq_getElem (by omega);rw[q4 j _ e,List.getD_eq_getElem?_getD,e];rfl
       ·obtain⟨_,q2,q3,q4⟩:=hg i hi;have hl:=q3.len;have e:(g i).2[j]? =some (g i).2[j]:=List.getElem?_eq_getElem (by omega);rw[List.getD_eq_getElem?_getD,e];exact q3.one j _ e
       ·obtain⟨_,q2,q3,q4⟩:=hg i hi;have hl:=q3.len;have hj:=(List.getElem?_eq_some_iff.1 hc).1;have e:(g i).2[j]? =some (g i).2[j]:=List.getElem?_eq_getElem (by omega);rw[List.getD_eq_getElem?_getD,e];exact q3.vi j c _ hc e
     ·cases h
  ·rename_i fs ht;simp only[Bool.and_eq_true,decide_eq_true_eq,List.all_eq_true]at hk;obtain⟨htile,hk⟩:=hk;cases fuel with
   |zero=>simp[DataW.trod]at h
   |succ fuel=>
    simp only[DataW.trod,ht]at h;split at h
    ·rename_i hcl;rw[Option.map_eq_some_iff]at h;obtain⟨xs,hm,_⟩:=h;obtain⟨_,as,g1,g2,g3⟩:=qfw (fun t cs dd ps=>ih fuel t cs dd ps) fs.toList 0 (P.cellsOf t) xs htile hk (by omega) hm;rw[Nat.sub_zero]at g2 g3;rw[List.drop_zero,List.take_of_length_le (by omega)]at g3;exact⟨as,⟨g2,fun f hf=>by have:=(g1 f hf).2;rwa [Nat.sub_zero]at this⟩,g2,g3⟩
    ·cases h
  ·cases hk
theorem qpz(how: ∀b,¬ow b){d:Nat}{t:TypeId}{cs:Array Value}{dd:DataW H}{ps:List MemPlace}(hk:qbS P d t=true)(h:DataW.Trod enc P w 0 (fun _=>true) held t (.agg cs) dd ps): ∃as,zy P d t as∧VI w ow (.agg as) (.agg cs):=by
 obtain⟨fuel,h⟩:=h;obtain⟨as,g1,g2,g3⟩:=qkH how d fuel t _ dd ps hk h;refine⟨as,g1,.agg ?_ (fun i x hx=>g3.one i x ?_) (fun i c x hc hx=>g3.vi i c x hc ?_)⟩
 ·have:=g3.len;simpa[Value.cells] using this
 ·simpa[Value.cells] using hx
 ·simpa[Value.cells] using hx
end
end AF
end
section
namespace AF
open Go
def zV(v:Nat)(ty:TypeId)(cs:List AV):AObj:=if cs= [] then .emp v else .mem v ty cs
section
variable {h l : List AObj} {k v w n c : Nat} {ty : TypeId} {cs ms : List AV} {a : AV} {o : AObj}
theorem jJ(h:cs≠ []):zV v ty cs= .mem v ty cs:=if_neg h
theorem verOf_own:qq (some (zV v ty cs))=v:=by unfold zV;split<;>rfl
theorem site_own0:qz (zV v ty cs::l) 0=true:=by unfold zV;split<;>rfl
theorem liveS_own0:jl (zV v ty cs::l) 0 w=(v==w):=by unfold zV;split<;>rfl
theorem tyOk_own:qqa (some (zV v ty cs)) ty=true:=by
 unfold zV;split
 ·rfl
 ·simp[qqa]
theorem cells_own0:((cellsOf (zV v ty cs::l) 0 v).getD [])=cs:=by
 unfold zV;split
 ·rename_i e;rw[e];rfl
 ·rw[cellsOf_0,if_pos rfl];rfl
theorem cellsS_own0:((cellsOf (zV v ty cs::l) 0 v).isSome=true)=(cs≠ []):=by
 unfold zV;split
 ·rename_i e;rw[e];simp[cellsOf,qH]
 ·rename_i e;rw[cellsOf_0,if_pos rfl];simp[e]
theorem qnO{b:AV}:qiX (some (zV v ty cs)) ty w c (n+1) (b::ms)=zV (w+1) ty (cs.take c++b::ms):=by
 rw[show zV (w+1) ty (cs.take c++b::ms)= .mem (w+1) ty (cs.take c++b::ms)from jJ (by simp)];unfold zV;split
 ·rename_i e;rw[e];simp[qiX]
 ·rfl
theorem appO_own1{b:AV}:qiX (some (zV v ty cs)) ty w c 1 (b::ms)=zV (w+1) ty (cs.take c++b::ms):=qnO (n:=0)
end
attribute [go_sem] verOf_own site_own0 liveS_own0 tyOk_own cells_own0 cellsS_own0 appO_own1
end AF
end
section
namespace AF
open Go
def LowI(h hh:List AObj):Prop:=hh.length=h.length∧ ∀o∈hh,o∈h∨(qaj h.length o∧qaj (h.length+1) o)
theorem LowI.refl(h:List AObj):LowI h h:=⟨rfl,fun _ ho=> .inl ho⟩
theorem kz{hh tl:List AObj}{o:AObj}{k:Nat}(h:hh.length=k):qH k (hh++o::tl)=some o:=by subst h;exact getO_app0
theorem qbW{hh tl:List AObj}{o o':AObj}{k:Nat}(h:hh.length=k):zg k (hh++o::tl) o'=hh++o'::tl:=by subst h;exact setO_app0
def qu0(P:Program)(f:FuncId)(cap:List AV)(xs:List (List AV)):Prop:=
 ∀(h:List AObj) (ts:List AV) (L:LInfo) (S:Nat→List AObj→Prop) (E:LS→List AObj→Prop),
  (∀i hh,S i hh→LowI h hh)→(∀s hh,E s hh→LowI h hh)→
  (∀i hh tl,(hi:i<xs.length)→S i hh→ku P h.length (xs[i]) (hh++ .lp .ready ts L::tl) (fun r h'=> ∃hh',(r= .bool true∧S (i+1) hh'∧h'=hh'++ .lp .ready ts L::tl)∨(∃s,r= .bool false∧E s hh'∧h'=hh'++ .lp s ts L::tl)))→
  S 0 h→(∀c∈ts,ji (h.length+1) c=true)→
  jR P f (.yld h.length::cap) (h++ [.lp .ready ts L]) (fun _ h'=> ∃hh,(S xs.length hh∧h'=hh++ [.lp .ready ts L])∨ ∃s,E s hh∧h'=hh++ [.lp s ts L])
theorem qia{P:Program}{f:FuncId}{cap:List AV}{xs:List (List AV)}(hf:qu0 P f cap xs){ps:List Nat}{b:Nat}{x y:C}{Q:Ex→Nx}{ts:List AV}{h:List AObj}(hps: ∀a∈xs,a.length=ps.length)
  (S:Nat→List AObj→Prop) (E:Ex→List AObj→Prop) (hS: ∀i hh,S i hh→LowI h hh) (hE: ∀s hh,E s hh→LowI h hh)
  (start:S 0 h) (hts: ∀c∈ts,ji (h.length+1) c=true)
  (body: ∀i hh tl L,(hi:i<xs.length)→S i hh→hh.length=h.length→
   qX P b x (fun e t2 h2=>e= .normal∧h2=hh++ .lp .ready ts L::tl∧
    qX P b y (fun e t3 h3=> ∃hh',h3=hh'++ .lp .busy ts L::tl∧hh'.length=h.length∧match e with
     | .normal=>S (i+1) hh'
     | .ret=>E .ret hh'
     | .exit id=>E (.exit id) hh') t2 (hh++ .lp .busy ts L::tl)) (qb6 ts ps (xs[i])) (hh++ .lp .ready ts L::tl))
  (done: ∀hh,S xs.length hh→Q .normal ts hh) (doneE: ∀e hh,E e hh→match e with
   | .normal=>False
   |e=>Q e ts hh):
  qeO P (.fn (.func f) [] cap) ps (qX P b x) (qX P b y) Q ts h:=by
 intro L hy;show jR _ _ _ _ _;have key:=hf h ts L S (fun s hh=>match s with
  | .ret=>E .ret hh
  | .exit id=>E (.exit id) hh
  |_=>False) hS
  (by
   intro s hh hs;cases s with
   |ret=>exact hE _ _ hs
   |exit id=>exact hE _ _ hs
   |ready=>exact hs.elim
   |busy=>exact hs.elim)
  (by
   intro i hh tl hi i4;have hlen:=(hS _ _ i4).1;refine hy h.length ts _ _ _ (kz hlen) (hps _ (List.getElem_mem hi)) ?_;have hb:=body i hh tl L hi i4 hlen;refine qaB ?_ hb;rintro e t2 h2 ⟨rfl,rfl,h3⟩;refine⟨rfl,⟨ts,kz hlen⟩,fun ts' hts'=> ?_⟩;rw[kz hlen]at hts';cases hts';rw[qbW hlen];refine qaB ?_ h3;rintro e t3 h3' ⟨hh',rfl,g1,g2⟩;refine⟨ts,kz g1,?_⟩;cases e with
   |normal=>exact⟨hh',.inl ⟨rfl,g2,qbW g1⟩⟩
   |ret=>exact⟨hh',.inr ⟨.ret,rfl,g2,qbW g1⟩⟩
   |exit id=>exact⟨hh',.inr ⟨.exit id,rfl,g2,qbW g1⟩⟩)
  start hts
 refine key.le (qbn.refl _) ?_;rintro v h' ⟨hh,⟨g1,rfl⟩|⟨s,g1,rfl⟩⟩
 ·have hl:=hS _ _ g1;exact⟨v,VLe.refl _,hh,.ready,ts,L,rfl,hl.1,fun o ho=>(hl.2 o ho).imp (fun h=>h) And.left,done hh g1⟩
 ·cases s with
  |ready=>exact g1.elim
  |busy=>exact g1.elim
  |ret=>
   have hl:=hE _ _ g1;exact⟨v,VLe.refl _,hh,.ret,ts,L,rfl,hl.1,fun o ho=>(hl.2 o ho).imp (fun h=>h) And.left,doneE _ _ g1⟩
  |exit id=>
   have hl:=hE _ _ g1;exact⟨v,VLe.refl _,hh,.exit id,ts,L,rfl,hl.1,fun o ho=>(hl.2 o ho).imp (fun h=>h) And.left,doneE _ _ g1⟩
theorem qoH{rs:List RV}{h0 h':List AObj}{K:AV→List AObj→Prop}{t:List AV}{r:AV}(hok:qak t h' rs)(hl:h'.length=h0.length)(hlow: ∀o∈h',o∈h0∨qaj h0.length o)(hK:K r h')
  (hv:VLe (frz (fun k=>decide (h0.length≤k)) h' 8 (retA (zW t h' rs))) r):fnQ rs h0 K .ret t h':=
 ⟨r,h',hK,hok,⟨[],(List.append_nil _).symm⟩,hl,hlow,VOut.of 8 hv⟩
theorem kx{rs:List RV}{h0 h':List AObj}{K:AV→List AObj→Prop}{t:List AV}{r:AV}(hok:qak t h' rs)(hl:h'.length=h0.length)(hlow: ∀o∈h',o∈h0∨qaj h0.length o)(hK:K r h')
  (hv:VLe (frz (fun k=>decide (h0.length≤k)) h' 8 (retA (zW t h' rs))) r):fnQ rs h0 K .normal t h':=
 ⟨r,h',hK,hok,⟨[],(List.append_nil _).symm⟩,hl,hlow,VOut.of 8 hv⟩
end AF
end
section
namespace AF
open Go
section
variable {P : Program} {b : Nat} {r : List RO} {K : Nx} {t : List AV} {h : List AObj} {xs : List X}
theorem qBA{d:Option Nat}:qK P b (⟨d,none,.s2b,xs⟩::r) K t h=(flags (evs t xs)∧jB b h .s2b (strips (evs t xs)) t d (qK P b r K)):=by simp only[qK,qN,zR,R.kd]
theorem qAs{nx:List AV→List AObj→Prop}{d:Option Nat}{s:List UInt8}:jB b h .s2b [.str s] t d nx=((s.length:Int)≤140737488355328∧nx (qT t d (.sl s.length fun i=> [.int .u8 ((s.getD i 0).toNat:Int)])) h):=(rfl)
end
theorem valL_b2s_nl{g:List AObj}:valL g .b2s [.nl]= .str []:=rfl
theorem qh5{g:List AObj}:okL g .b2s [.nl]=True:=rfl
theorem qe5{g:List AObj}{k v z p n:Nat}:valL g .b2s [.osl k v z p n]= .str (((((cellsOf g k v).getD []).drop p).take n).map qcr):=rfl
theorem qfM{g:List AObj}{k v z p n:Nat}:okL g .b2s [.osl k v z p n]=(jl g k v=true∧z=1∧p+n≤((cellsOf g k v).getD []).length∧ ∀c∈((((cellsOf g k v).getD []).drop p).take n),qeD c):=rfl
theorem qtV{x:AV}{q:Bool}:jK (.bool false) x (.bool q)= .bool q:=by
 unfold jK;simp only[AV.strip,qaZ];split
 ·rename_i p' q' h1 h2;cases h2;simp
 ·simp
theorem qtW{y:AV}{p:Bool}:jK (.bool true) (.bool p) y= .bool p:=by
 unfold jK;simp only[AV.strip,qaZ];split
 ·rename_i p' q' h1 h2;cases h1;simp
 ·simp
attribute [go_sem] qtV qtW
theorem qw{P:Program}{f:Nat}{first cap args:List AV}{d:Option Nat}{nx:Nx}{t:List AV}{h:List AObj}{v:AV}(hc:ACalls P f (first++args++cap) h v h)(hn:nx (qT t d v) h):qb1 P (.fn (.func f) first cap::args) d nx t h:=⟨v,h,hc,hn⟩
attribute [go_sem] qBA qAs valL_b2s_nl qh5 qe5 qfM
end AF
end
section
namespace AF
open Go
section
variable {P : Program} {b : Nat} {r : List RO} {K : Nx} {t : List AV} {h : List AObj} {xs : List X}
end
theorem valL_capnl{g:List AObj}:valL g .cap [.nl]= .int .i64 0:=rfl
theorem qlA{g:List AObj}:okL g .cap [.nl]=True:=rfl
theorem qiQ{g:List AObj}{z:Nat}{lo hi:Bool}{bs:List AV}:valL g (.slc z lo hi) (.nl::bs)= .nl:=rfl
attribute [go_sem] valL_capnl qlA qiQ
end AF
end
section
namespace AF
open Go
section
variable {P : Program} {b : Nat} {K : Nx} {t : List AV} {h : List AObj}
theorem t_nil:qcT P b .nil K t h=K t h:=(rfl)
theorem t_one{o:RO}{r:DT}:qcT P b (.one o r) K t h=qK P b [o] (qcT P b r K) t h:=(rfl)
theorem t_two{x y:DT}:qcT P b (.two x y) K t h=(qcT P b x K t h∧qcT P b y K t h):=(rfl)
theorem qsQ{d:DT}{Q:Ex→Nx}(T:List AV)(H:List AObj)(h1:qcT P b d (fun t' h'=>t'=T∧h'=H) t h)(h2:Q .normal T H):qX P b (.draw d) Q t h:=
 ⟨_,h1,fun t' h' ⟨e1,e2⟩=>by subst e1;subst e2;exact h2⟩
theorem qn1{f:Nat}{vs:List AV}{d:Option Nat}{nx:Nx}{r:AV}(hc: ∀h0,ACalls P f (strips vs) h0 r h0)(hf:flags vs)(hn:nx (qT t d r) h):qso P f vs d nx t h:=⟨hf,r,hc,hn⟩
end
attribute [go_sem] t_nil t_one t_two
end AF
end
section
namespace AF
open Go
section
variable {P : Program} {b : Nat} {r : List RO} {K : Nx} {t : List AV} {h l : List AObj} {xs : List X} {ks : AK} {ok : Bool} {z : AV} {d : Option Nat} {nx : List AV → List AObj → Prop}
end
section
variable {h l : List AObj} {ks : AK} {ok : Bool} {z x : AV} {k ver n v w : Nat} {es : List (AV × AV)} {o : AObj}
theorem valL_mlk_t:valL h (.mlk ks true z) [.mp k ver,x]= .tup [(qfJ ks x z ((jo h k ver).getD [])).1,.bool (qfJ ks x z ((jo h k ver).getD [])).2]:=rfl
theorem valL_mlk_f:valL h (.mlk ks false z) [.mp k ver,x]=(qfJ ks x z ((jo h k ver).getD [])).1:=rfl
theorem okL_mlk:okL h (.mlk ks ok z) [.mp k ver,x]=((jo h k ver).isSome=true∧okK ks x∧(qb5 ks x ((jo h k ver).getD []) 0).isSome=true):=rfl
theorem mapOf_0:jo (.map w es::l) 0 v=if w=v then some es else none:=rfl
theorem mapOf_s:jo (o::l) (n+1) v=jo l n v:=rfl
theorem site_0_map:qz (.map v es::l) 0=true:=rfl
theorem verOf_map:qq (some (.map v es))=v:=rfl
theorem strip_mp:(AV.mp k v).strip=AV.mp k v:=rfl
theorem flag_mp:(AV.mp k v).flag=true:=rfl
theorem solid_mp:(AV.mp k v).solid=true:=rfl
theorem cells_mp:(AV.mp k v).cells= [AV.mp k v]:=rfl
theorem okK_str{s:List UInt8}:okK .str (.str s)=True:=rfl
theorem okK_int{q:IntKind}{i:Int}:okK .int (.int q i)=True:=rfl
theorem okK_bool{q:Bool}:okK .bool (.bool q)=True:=rfl
theorem frz_mp{fz:Nat→Bool}:frz fz h (n+1) (.mp k v)=if fz k then .undef else .mp k v:=rfl
end
attribute [go_sem] valL_mlk_t valL_mlk_f okL_mlk mapOf_0 mapOf_s site_0_map verOf_map strip_mp flag_mp solid_mp cells_mp okK_str okK_int okK_bool frz_mp
section
variable {P : Program} {b : Nat} {r : List RO} {K : Nx} {t : List AV} {h : List AObj} {xs : List X} {d : Nat}
theorem qzp{z:Nat}:qK P b (⟨some d,none,.idxI z,xs⟩::r) K t h=(flags (evs t xs)∧okP (.idxI z) (strips (evs t xs))∧qK P b r K (ja d t (valP (.idxI z) (strips (evs t xs)))) h):=by simp only[qK,qN,zR,R.kd,qT]
theorem qzn{z:Nat}:qK P b (⟨some d,none,.fldI z,xs⟩::r) K t h=(flags (evs t xs)∧okP (.fldI z) (strips (evs t xs))∧qK P b r K (ja d t (valP (.fldI z) (strips (evs t xs)))) h):=by simp only[qK,qN,zR,R.kd,qT]
theorem quJ{z:Option Nat}:qK P b (⟨some d,none,.loadI z,xs⟩::r) K t h=(flags (evs t xs)∧okP (.loadI z) (strips (evs t xs))∧qK P b r K (ja d t (valP (.loadI z) (strips (evs t xs)))) h):=by simp only[qK,qN,zR,R.kd,qT]
end
theorem valP_idxI{z n:Nat}{f:Nat→List AV}{k:IntKind}{i:Int}:valP (.idxI z) [.sl n f,.int k i]= .ip (f i.toNat):=rfl
theorem qpj{z n:Nat}{f:Nat→List AV}{k:IntKind}{i:Int}:okP (.idxI z) [.sl n f,.int k i]=((0≤i∧i<n)∧(f i.toNat).length=z):=rfl
theorem qng{z:Nat}{cs:List AV}:valP (.fldI z) [.ip cs]= .ip (cs.drop z):=rfl
theorem qpi{z:Nat}{cs:List AV}:okP (.fldI z) [.ip cs]=(z<cs.length):=rfl
theorem qiT{z:Option Nat}{cs:List AV}:valP (.loadI z) [.ip cs]=cut cs 0 z:=rfl
theorem qlI{z:Option Nat}{cs:List AV}:okP (.loadI z) [.ip cs]=jn cs 0 z:=rfl
attribute [go_sem] qzp qzn quJ valP_idxI qpj qng qpi qiT qlI
end AF
end
theorem gdqA{α:Type _}{l:List α}{i:Nat}{a:α}:l.getD i a=l[i]?.getD a:=List.getD_eq_getElem?_getD
theorem zA{α:Type _}{l:List α}{i:Nat}(h:i<l.length):l[i]? =some l[i]:=List.getElem?_eq_getElem h
theorem qj{v:AF.AV}:AF.VLe v v:=AF.VLe.refl v
theorem aiA{p q:Prop}(h1:p)(h2:q):p∧q:=⟨h1,h2⟩
