import Derived.Test.YthjkfdakolejgaaGreatDoorK2
import Derived.Test.YthjkfdakolejgaaGreatDoorK3
import Derived.Below
import Derived.ChangeSame
import Derived.ChangeShapes
import Derived.CallsIn
import Derived.Carry
import Derived.RowKit
import Derived.WalkKit
import Derived.ProofKit
set_option linter.all false
set_option linter.unusedSimpArgs false
set_option linter.unusedVariables false
set_option linter.unusedSectionVars false
section
namespace AF
open Go
set_option maxRecDepth 4000
def qFH(k:IntKind)(a c:Int):Int:=k.wrap (a*2^(min c.toNat k.bits))
def qwH(k:IntKind)(a c:Int):Int:=a.fdiv (2^(min c.toNat k.bits))
def qoY(k:IntKind)(a c:Int):Int:=k.wrap (BitVec.ofInt k.bits a&&&BitVec.ofInt k.bits c).toNat
def orK(k:IntKind)(a c:Int):Int:=k.wrap (BitVec.ofInt k.bits a|||BitVec.ofInt k.bits c).toNat
def qF8(k:IntKind)(a c:Int):Int:=k.wrap (BitVec.ofInt k.bits a^^^BitVec.ofInt k.bits c).toNat
def qtd(k:IntKind)(a c:Int):Int:=k.wrap (BitVec.ofInt k.bits a&&& ~~~ BitVec.ofInt k.bits c).toNat
theorem qz3{a0:AV}{r:List AV}:zJ 0 (a0::r)=a0:=rfl
theorem qAQ{a0 v:AV}{r:List AV}:jj 0 (a0::r) v=v::r:=rfl
theorem qz4{a0 a1:AV}{r:List AV}:zJ 1 (a0::a1::r)=a1:=rfl
theorem qAR{a0 a1 v:AV}{r:List AV}:jj 1 (a0::a1::r) v=a0::v::r:=rfl
theorem qz5{a0 a1 a2:AV}{r:List AV}:zJ 2 (a0::a1::a2::r)=a2:=rfl
theorem qAS{a0 a1 a2 v:AV}{r:List AV}:jj 2 (a0::a1::a2::r) v=a0::a1::v::r:=rfl
theorem qz6{a0 a1 a2 a3:AV}{r:List AV}:zJ 3 (a0::a1::a2::a3::r)=a3:=rfl
theorem qAT{a0 a1 a2 a3 v:AV}{r:List AV}:jj 3 (a0::a1::a2::a3::r) v=a0::a1::a2::v::r:=rfl
theorem qz7{a0 a1 a2 a3 a4:AV}{r:List AV}:zJ 4 (a0::a1::a2::a3::a4::r)=a4:=rfl
theorem qAU{a0 a1 a2 a3 a4 v:AV}{r:List AV}:jj 4 (a0::a1::a2::a3::a4::r) v=a0::a1::a2::a3::v::r:=rfl
theorem qz8{a0 a1 a2 a3 a4 a5:AV}{r:List AV}:zJ 5 (a0::a1::a2::a3::a4::a5::r)=a5:=rfl
theorem qAV{a0 a1 a2 a3 a4 a5 v:AV}{r:List AV}:jj 5 (a0::a1::a2::a3::a4::a5::r) v=a0::a1::a2::a3::a4::v::r:=rfl
theorem qz9{a0 a1 a2 a3 a4 a5 a6:AV}{r:List AV}:zJ 6 (a0::a1::a2::a3::a4::a5::a6::r)=a6:=rfl
theorem qAW{a0 a1 a2 a3 a4 a5 a6 v:AV}{r:List AV}:jj 6 (a0::a1::a2::a3::a4::a5::a6::r) v=a0::a1::a2::a3::a4::a5::v::r:=rfl
theorem qAa{a0 a1 a2 a3 a4 a5 a6 a7:AV}{r:List AV}:zJ 7 (a0::a1::a2::a3::a4::a5::a6::a7::r)=a7:=rfl
theorem qAX{a0 a1 a2 a3 a4 a5 a6 a7 v:AV}{r:List AV}:jj 7 (a0::a1::a2::a3::a4::a5::a6::a7::r) v=a0::a1::a2::a3::a4::a5::a6::v::r:=rfl
theorem quA{n:Nat}{a0 a1 a2 a3 a4 a5 a6 a7:AV}{r:List AV}:zJ (n+8) (a0::a1::a2::a3::a4::a5::a6::a7::r)=zJ n r:=rfl
theorem qvO{n:Nat}{a0 a1 a2 a3 a4 a5 a6 a7 v:AV}{r:List AV}:jj (n+8) (a0::a1::a2::a3::a4::a5::a6::a7::r) v=a0::a1::a2::a3::a4::a5::a6::a7::jj n r v:=rfl
theorem qqo{n:Nat}{a0 a1 a2 a3 a4 a5 a6 a7 a8 a9 a10 a11 a12 a13 a14 a15 a16 a17 a18 a19 a20 a21 a22 a23 a24 a25 a26 a27 a28 a29 a30 a31:AV}{r:List AV}:zJ (n+32) (a0::a1::a2::a3::a4::a5::a6::a7::a8::a9::a10::a11::a12::a13::a14::a15::a16::a17::a18::a19::a20::a21::a22::a23::a24::a25::a26::a27::a28::a29::a30::a31::r)=zJ n r:=rfl
theorem qrs{n:Nat}{a0 a1 a2 a3 a4 a5 a6 a7 a8 a9 a10 a11 a12 a13 a14 a15 a16 a17 a18 a19 a20 a21 a22 a23 a24 a25 a26 a27 a28 a29 a30 a31 v:AV}{r:List AV}:jj (n+32) (a0::a1::a2::a3::a4::a5::a6::a7::a8::a9::a10::a11::a12::a13::a14::a15::a16::a17::a18::a19::a20::a21::a22::a23::a24::a25::a26::a27::a28::a29::a30::a31::r) v=a0::a1::a2::a3::a4::a5::a6::a7::a8::a9::a10::a11::a12::a13::a14::a15::a16::a17::a18::a19::a20::a21::a22::a23::a24::a25::a26::a27::a28::a29::a30::a31::jj n r v:=rfl
theorem qE7{t:List AV}{n:Nat}:ev t (.t n)=zJ n t:=rfl
theorem qE6{t:List AV}{v:AV}:ev t (.c v)=v:=rfl
theorem qjv{b:Bool}:(AV.bool b).strip=(AV.bool b):=rfl
theorem qlR{b:Bool}:(AV.bool b).flag=true:=rfl
theorem qjh{b:Bool}:(AV.bool b).solid=true:=rfl
theorem qit{b:Bool}:(AV.bool b).cells= [(AV.bool b)]:=rfl
theorem qob{k:IntKind}{n:Int}:(AV.int k n).strip=(AV.int k n):=rfl
theorem qp1{k:IntKind}{n:Int}:(AV.int k n).flag=true:=rfl
theorem qnT{k:IntKind}{n:Int}:(AV.int k n).solid=true:=rfl
theorem qli{k:IntKind}{n:Int}:(AV.int k n).cells= [(AV.int k n)]:=rfl
theorem qof{s:List UInt8}:(AV.str s).strip=(AV.str s):=rfl
theorem qp5{s:List UInt8}:(AV.str s).flag=true:=rfl
theorem qnX{s:List UInt8}:(AV.str s).solid=true:=rfl
theorem qlm{s:List UInt8}:(AV.str s).cells= [(AV.str s)]:=rfl
theorem qrQ{n:Nat}{f:Nat→List AV}:(AV.sl n f).strip=(AV.sl n f):=rfl
theorem qun{n:Nat}{f:Nat→List AV}:(AV.sl n f).flag=true:=rfl
theorem qrE{n:Nat}{f:Nat→List AV}:(AV.sl n f).solid=true:=rfl
theorem qpG{n:Nat}{f:Nat→List AV}:(AV.sl n f).cells= [(AV.sl n f)]:=rfl
theorem qod{k v s p l:Nat}:(AV.osl k v s p l).strip=(AV.osl k v s p l):=rfl
theorem qp3{k v s p l:Nat}:(AV.osl k v s p l).flag=true:=rfl
theorem qnV{k v s p l:Nat}:(AV.osl k v s p l).solid=true:=rfl
theorem qlk{k v s p l:Nat}:(AV.osl k v s p l).cells= [(AV.osl k v s p l)]:=rfl
theorem qn9{c:List AV}:(AV.agg c).strip=(AV.agg c):=rfl
theorem qpZ{c:List AV}:(AV.agg c).flag=true:=rfl
theorem qnR{c:List AV}:(AV.agg c).solid=true:=rfl
theorem qog{c:List AV}:(AV.tup c).strip=(AV.tup c):=rfl
theorem qp6{c:List AV}:(AV.tup c).flag=true:=rfl
theorem qln{c:List AV}:(AV.tup c).cells= [(AV.tup c)]:=rfl
theorem qrN{c:List AV}:(AV.ip c).strip=(AV.ip c):=rfl
theorem quk{c:List AV}:(AV.ip c).flag=true:=rfl
theorem qrB{c:List AV}:(AV.ip c).solid=true:=rfl
theorem qpD{c:List AV}:(AV.ip c).cells= [(AV.ip c)]:=rfl
theorem qrP{k v p:Nat}:(AV.op k v p).strip=(AV.op k v p):=rfl
theorem qum{k v p:Nat}:(AV.op k v p).flag=true:=rfl
theorem qrD{k v p:Nat}:(AV.op k v p).solid=true:=rfl
theorem qpF{k v p:Nat}:(AV.op k v p).cells= [(AV.op k v p)]:=rfl
theorem qjz  :AV.nilp.strip=AV.nilp:=rfl
theorem qlV  :AV.nilp.flag=true:=rfl
theorem qjk  :AV.nilp.solid=true:=rfl
theorem qiw  :AV.nilp.cells= [AV.nilp]:=rfl
theorem qrO  :AV.nl.strip=AV.nl:=rfl
theorem qul  :AV.nl.flag=true:=rfl
theorem qrC  :AV.nl.solid=true:=rfl
theorem qpE  :AV.nl.cells= [AV.nl]:=rfl
theorem qrL{f:Fn}{a c:List AV}:(AV.fn f a c).strip=(AV.fn f a c):=rfl
theorem qui{f:Fn}{a c:List AV}:(AV.fn f a c).flag=true:=rfl
theorem qrA{f:Fn}{a c:List AV}:(AV.fn f a c).solid=true:=rfl
theorem qpB{f:Fn}{a c:List AV}:(AV.fn f a c).cells= [(AV.fn f a c)]:=rfl
theorem qoh{k:Nat}:(AV.yld k).strip=(AV.yld k):=rfl
theorem qp7{k:Nat}:(AV.yld k).flag=true:=rfl
theorem qnY{k:Nat}:(AV.yld k).solid=true:=rfl
theorem qlo{k:Nat}:(AV.yld k).cells= [(AV.yld k)]:=rfl
theorem qgV  :AV.nilfn.strip=AV.nilfn:=rfl
theorem qiL  :AV.nilfn.flag=true:=rfl
theorem qgM  :AV.nilfn.solid=true:=rfl
theorem qgm  :AV.nilfn.cells= [AV.nilfn]:=rfl
theorem qoa  :AV.ifc.strip=AV.ifc:=rfl
theorem qp0  :AV.ifc.flag=true:=rfl
theorem qnS  :AV.ifc.solid=true:=rfl
theorem qlh  :AV.ifc.cells= [AV.ifc]:=rfl
theorem qgW  :AV.nilif.strip=AV.nilif:=rfl
theorem qiM  :AV.nilif.flag=true:=rfl
theorem qgN  :AV.nilif.solid=true:=rfl
theorem qgn  :AV.nilif.cells= [AV.nilif]:=rfl
theorem qgZ:AV.undef.strip=AV.undef:=rfl
theorem qiP:AV.undef.flag=true:=rfl
theorem qlg{c:List AV}:(AV.agg c).cells=c:=rfl
theorem qrM{g:Bool}{v:AV}:(AV.gd g v).strip=v:=rfl
theorem quj{g:Bool}{v:AV}:(AV.gd g v).flag=g:=rfl
theorem qFX{P:Program}{b:Nat}{r:List RO}{K:Nx}{t:List AV}{h:List AObj}{d:Nat} {x:X}:opsA P b (⟨some d,none,.mv,[x]⟩::r) K t h=((ev t x).flag=true∧opsA P b r K (jj d t ((ev t x).strip)) h):=by simp only[opsA,stepO,stepA,R.kd,evs,flags,strips,qT,okP,okL,valP,valL,and_true,true_and,and_assoc]
theorem qEa{P:Program}{b:Nat}{r:List RO}{K:Nx}{t:List AV}{h:List AObj}{d:Nat} {x:X}{j:Nat}{u:Bool}:opsA P b (⟨some d,some (j,u),.mv,[x]⟩::r) K t h=(zH (zJ j t)=true∧(qQ (zJ j t) u=true→(ev t x).flag=true)∧opsA P b r K (jj d t (.gd (qQ (zJ j t) u) ((ev t x).strip))) h):=by simp only[opsA,stepO,kM,R.kd,evs,flags,strips,qT,okP,okL,valP,valL,and_true,true_and,and_assoc]
theorem qDV{P:Program}{b:Nat}{r:List RO}{K:Nx}{t:List AV}{h:List AObj}{d:Nat}{q:BinOp}{x y:X}:opsA P b (⟨some d,none,.bin q,[x,y]⟩::r) K t h=((ev t x).flag=true∧(ev t y).flag=true∧qaD q (ev t x).strip (ev t y).strip∧opsA P b r K (jj d t (qaz q (ev t x).strip (ev t y).strip)) h):=by simp only[opsA,stepO,stepA,R.kd,evs,flags,strips,qT,okP,okL,valP,valL,and_true,true_and,and_assoc]
theorem qBQ{P:Program}{b:Nat}{r:List RO}{K:Nx}{t:List AV}{h:List AObj}{d:Nat}{q:BinOp}{x y:X}{j:Nat}{u:Bool}:opsA P b (⟨some d,some (j,u),.bin q,[x,y]⟩::r) K t h=(zH (zJ j t)=true∧(qQ (zJ j t) u=true→(ev t x).flag=true∧(ev t y).flag=true∧qaD q (ev t x).strip (ev t y).strip)∧opsA P b r K (jj d t (.gd (qQ (zJ j t) u) (qaz q (ev t x).strip (ev t y).strip))) h):=by simp only[opsA,stepO,kM,R.kd,evs,flags,strips,qT,okP,okL,valP,valL,and_true,true_and,and_assoc]
theorem qFY{P:Program}{b:Nat}{r:List RO}{K:Nx}{t:List AV}{h:List AObj}{d:Nat}{q:UnOp}{xs:List X}:opsA P b (⟨some d,none,.un q,xs⟩::r) K t h=(flags (evs t xs)∧okP (.un q) (strips (evs t xs))∧opsA P b r K (jj d t (valP (.un q) (strips (evs t xs)))) h):=by simp only[opsA,stepO,stepA,R.kd,qT]
theorem qEb{P:Program}{b:Nat}{r:List RO}{K:Nx}{t:List AV}{h:List AObj}{d:Nat}{q:UnOp}{xs:List X}{j:Nat}{u:Bool}:opsA P b (⟨some d,some (j,u),.un q,xs⟩::r) K t h=(zH (zJ j t)=true∧(qQ (zJ j t) u=true→flags (evs t xs)∧okP (.un q) (strips (evs t xs)))∧opsA P b r K (jj d t (.gd (qQ (zJ j t) u) (valP (.un q) (strips (evs t xs))))) h):=by simp only[opsA,stepO,kM,R.kd,qT]
theorem qBl{P:Program}{b:Nat}{r:List RO}{K:Nx}{t:List AV}{h:List AObj}{d:Nat}{k:IntKind}{xs:List X}:opsA P b (⟨some d,none,.conv k,xs⟩::r) K t h=(flags (evs t xs)∧okP (.conv k) (strips (evs t xs))∧opsA P b r K (jj d t (valP (.conv k) (strips (evs t xs)))) h):=by simp only[opsA,stepO,stepA,R.kd,qT]
theorem qwf{P:Program}{b:Nat}{r:List RO}{K:Nx}{t:List AV}{h:List AObj}{d:Nat}{k:NK}{n:Bool}{xs:List X}:opsA P b (⟨some d,none,.isnil k n,xs⟩::r) K t h=(flags (evs t xs)∧okP (.isnil k n) (strips (evs t xs))∧opsA P b r K (jj d t (valP (.isnil k n) (strips (evs t xs)))) h):=by simp only[opsA,stepO,stepA,R.kd,qT]
theorem qDS{P:Program}{b:Nat}{r:List RO}{K:Nx}{t:List AV}{h:List AObj}{d:Nat}{ks:List AK}{n:Bool}{xs:List X}:opsA P b (⟨some d,none,.aeq ks n,xs⟩::r) K t h=(flags (evs t xs)∧okP (.aeq ks n) (strips (evs t xs))∧opsA P b r K (jj d t (valP (.aeq ks n) (strips (evs t xs)))) h):=by simp only[opsA,stepO,stepA,R.kd,qT]
theorem qDX{P:Program}{b:Nat}{r:List RO}{K:Nx}{t:List AV}{h:List AObj}{d:Nat}{i:Nat}{xs:List X}:opsA P b (⟨some d,none,.ext i,xs⟩::r) K t h=(flags (evs t xs)∧okP (.ext i) (strips (evs t xs))∧opsA P b r K (jj d t (valP (.ext i) (strips (evs t xs)))) h):=by simp only[opsA,stepO,stepA,R.kd,qT]
theorem qwd{P:Program}{b:Nat}{r:List RO}{K:Nx}{t:List AV}{h:List AObj}{d:Nat}{z:List AV}{ps:List (Nat×Nat)}{xs:List X}:opsA P b (⟨some d,none,.build z ps,xs⟩::r) K t h=(flags (evs t xs)∧okP (.build z ps) (strips (evs t xs))∧opsA P b r K (jj d t (valP (.build z ps) (strips (evs t xs)))) h):=by simp only[opsA,stepO,stepA,R.kd,qT]
theorem qr8{P:Program}{b:Nat}{r:List RO}{K:Nx}{t:List AV}{h:List AObj}{d:Nat}{z:List AV}{ps:List (Nat×Nat)}{xs:List X}{j:Nat}{u:Bool}:opsA P b (⟨some d,some (j,u),.build z ps,xs⟩::r) K t h=(zH (zJ j t)=true∧(qQ (zJ j t) u=true→flags (evs t xs)∧okP (.build z ps) (strips (evs t xs)))∧opsA P b r K (jj d t (.gd (qQ (zJ j t) u) (valP (.build z ps) (strips (evs t xs))))) h):=by simp only[opsA,stepO,kM,R.kd,qT]
theorem qBq{P:Program}{b:Nat}{r:List RO}{K:Nx}{t:List AV}{h:List AObj}{d:Nat}{f:Fn}{n:Nat}{xs:List X}:opsA P b (⟨some d,none,.mkfn f n,xs⟩::r) K t h=(flags (evs t xs)∧okP (.mkfn f n) (strips (evs t xs))∧opsA P b r K (jj d t (valP (.mkfn f n) (strips (evs t xs)))) h):=by simp only[opsA,stepO,stepA,R.kd,qT]
theorem qBu{P:Program}{b:Nat}{r:List RO}{K:Nx}{t:List AV}{h:List AObj}{d:Nat} {xs:List X}:opsA P b (⟨some d,none,.slen,xs⟩::r) K t h=(flags (evs t xs)∧okP (.slen) (strips (evs t xs))∧opsA P b r K (jj d t (valP (.slen) (strips (evs t xs)))) h):=by simp only[opsA,stepO,stepA,R.kd,qT]
theorem qwp{P:Program}{b:Nat}{r:List RO}{K:Nx}{t:List AV}{h:List AObj}{d:Nat} {xs:List X}{j:Nat}{u:Bool}:opsA P b (⟨some d,some (j,u),.slen,xs⟩::r) K t h=(zH (zJ j t)=true∧(qQ (zJ j t) u=true→flags (evs t xs)∧okP (.slen) (strips (evs t xs)))∧opsA P b r K (jj d t (.gd (qQ (zJ j t) u) (valP (.slen) (strips (evs t xs))))) h):=by simp only[opsA,stepO,kM,R.kd,qT]
theorem qBt{P:Program}{b:Nat}{r:List RO}{K:Nx}{t:List AV}{h:List AObj}{d:Nat} {xs:List X}:opsA P b (⟨some d,none,.sidx,xs⟩::r) K t h=(flags (evs t xs)∧okP (.sidx) (strips (evs t xs))∧opsA P b r K (jj d t (valP (.sidx) (strips (evs t xs)))) h):=by simp only[opsA,stepO,stepA,R.kd,qT]
theorem qBh{P:Program}{b:Nat}{r:List RO}{K:Nx}{t:List AV}{h:List AObj}{d n1 n2:Nat}{n3:Option Nat} {xs:List X}:opsA P b (⟨some d,none,(.aidx n1 n2 n3),xs⟩::r) K t h=(flags (evs t xs)∧okP (.aidx n1 n2 n3) (strips (evs t xs))∧opsA P b r K (jj d t (valP (.aidx n1 n2 n3) (strips (evs t xs)))) h):=by simp only[opsA,stepO,stepA,R.kd,qT]
theorem qwo{P:Program}{b:Nat}{r:List RO}{K:Nx}{t:List AV}{h:List AObj}{d:Nat} {xs:List X}{j:Nat}{u:Bool}:opsA P b (⟨some d,some (j,u),.sidx,xs⟩::r) K t h=(zH (zJ j t)=true∧(qQ (zJ j t) u=true→flags (evs t xs)∧okP (.sidx) (strips (evs t xs)))∧opsA P b r K (jj d t (.gd (qQ (zJ j t) u) (valP (.sidx) (strips (evs t xs))))) h):=by simp only[opsA,stepO,kM,R.kd,qT]
theorem qBv{P:Program}{b:Nat}{r:List RO}{K:Nx}{t:List AV}{h:List AObj}{d:Nat}{lo hi:Bool}{xs:List X}:opsA P b (⟨some d,none,.sslc lo hi,xs⟩::r) K t h=(flags (evs t xs)∧okP (.sslc lo hi) (strips (evs t xs))∧opsA P b r K (jj d t (valP (.sslc lo hi) (strips (evs t xs)))) h):=by simp only[opsA,stepO,stepA,R.kd,qT]
theorem qwq{P:Program}{b:Nat}{r:List RO}{K:Nx}{t:List AV}{h:List AObj}{d:Nat}{lo hi:Bool}{xs:List X}{j:Nat}{u:Bool}:opsA P b (⟨some d,some (j,u),.sslc lo hi,xs⟩::r) K t h=(zH (zJ j t)=true∧(qQ (zJ j t) u=true→flags (evs t xs)∧okP (.sslc lo hi) (strips (evs t xs)))∧opsA P b r K (jj d t (.gd (qQ (zJ j t) u) (valP (.sslc lo hi) (strips (evs t xs))))) h):=by simp only[opsA,stepO,kM,R.kd,qT]
theorem qFW{P:Program}{b:Nat}{r:List RO}{K:Nx}{t:List AV}{h:List AObj}{d:Nat}{m:Bool}{xs:List X}:opsA P b (⟨some d,none,.mm m,xs⟩::r) K t h=(flags (evs t xs)∧okP (.mm m) (strips (evs t xs))∧opsA P b r K (jj d t (valP (.mm m) (strips (evs t xs)))) h):=by simp only[opsA,stepO,stepA,R.kd,qT]
theorem qDY{P:Program}{b:Nat}{r:List RO}{K:Nx}{t:List AV}{h:List AObj}{d:Nat} {xs:List X}:opsA P b (⟨some d,none,.len,xs⟩::r) K t h=(flags (evs t xs)∧okL h (.len) (strips (evs t xs))∧opsA P b r K (jj d t (valL h (.len) (strips (evs t xs)))) h):=by simp only[opsA,stepO,stepA,R.kd,qT]
theorem qBR{P:Program}{b:Nat}{r:List RO}{K:Nx}{t:List AV}{h:List AObj}{d:Nat} {xs:List X}{j:Nat}{u:Bool}:opsA P b (⟨some d,some (j,u),.len,xs⟩::r) K t h=(zH (zJ j t)=true∧(qQ (zJ j t) u=true→flags (evs t xs)∧okL h (.len) (strips (evs t xs)))∧opsA P b r K (jj d t (.gd (qQ (zJ j t) u) (valL h (.len) (strips (evs t xs))))) h):=by simp only[opsA,stepO,kM,R.kd,qT]
theorem qBo{P:Program}{b:Nat}{r:List RO}{K:Nx}{t:List AV}{h:List AObj}{d:Nat}{z:Nat}{xs:List X}:opsA P b (⟨some d,none,.idxA z,xs⟩::r) K t h=(flags (evs t xs)∧okL h (.idxA z) (strips (evs t xs))∧opsA P b r K (jj d t (valL h (.idxA z) (strips (evs t xs)))) h):=by simp only[opsA,stepO,stepA,R.kd,qT]
theorem qwl{P:Program}{b:Nat}{r:List RO}{K:Nx}{t:List AV}{h:List AObj}{d:Nat}{z:Nat}{xs:List X}{j:Nat}{u:Bool}:opsA P b (⟨some d,some (j,u),.idxA z,xs⟩::r) K t h=(zH (zJ j t)=true∧(qQ (zJ j t) u=true→flags (evs t xs)∧okL h (.idxA z) (strips (evs t xs)))∧opsA P b r K (jj d t (.gd (qQ (zJ j t) u) (valL h (.idxA z) (strips (evs t xs))))) h):=by simp only[opsA,stepO,kM,R.kd,qT]
theorem qBm{P:Program}{b:Nat}{r:List RO}{K:Nx}{t:List AV}{h:List AObj}{d:Nat}{p:Nat}{xs:List X}:opsA P b (⟨some d,none,.fldA p,xs⟩::r) K t h=(flags (evs t xs)∧okL h (.fldA p) (strips (evs t xs))∧opsA P b r K (jj d t (valL h (.fldA p) (strips (evs t xs)))) h):=by simp only[opsA,stepO,stepA,R.kd,qT]
theorem qwk{P:Program}{b:Nat}{r:List RO}{K:Nx}{t:List AV}{h:List AObj}{d:Nat}{p:Nat}{xs:List X}{j:Nat}{u:Bool}:opsA P b (⟨some d,some (j,u),.fldA p,xs⟩::r) K t h=(zH (zJ j t)=true∧(qQ (zJ j t) u=true→flags (evs t xs)∧okL h (.fldA p) (strips (evs t xs)))∧opsA P b r K (jj d t (.gd (qQ (zJ j t) u) (valL h (.fldA p) (strips (evs t xs))))) h):=by simp only[opsA,stepO,kM,R.kd,qT]
theorem qBp{P:Program}{b:Nat}{r:List RO}{K:Nx}{t:List AV}{h:List AObj}{d:Nat}{n:Option Nat}{xs:List X}:opsA P b (⟨some d,none,.load n,xs⟩::r) K t h=(flags (evs t xs)∧okL h (.load n) (strips (evs t xs))∧opsA P b r K (jj d t (valL h (.load n) (strips (evs t xs)))) h):=by simp only[opsA,stepO,stepA,R.kd,qT]
theorem qwm{P:Program}{b:Nat}{r:List RO}{K:Nx}{t:List AV}{h:List AObj}{d:Nat}{n:Option Nat}{xs:List X}{j:Nat}{u:Bool}:opsA P b (⟨some d,some (j,u),.load n,xs⟩::r) K t h=(zH (zJ j t)=true∧(qQ (zJ j t) u=true→flags (evs t xs)∧okL h (.load n) (strips (evs t xs)))∧opsA P b r K (jj d t (.gd (qQ (zJ j t) u) (valL h (.load n) (strips (evs t xs))))) h):=by simp only[opsA,stepO,kM,R.kd,qT]
theorem qr7{P:Program}{b:Nat}{r:List RO}{K:Nx}{t:List AV}{h:List AObj}{d:Nat} {xs:List X}:opsA P b (⟨some d,none,.nilchk,xs⟩::r) K t h=(flags (evs t xs)∧okL h (.nilchk) (strips (evs t xs))∧opsA P b r K (jj d t (valL h (.nilchk) (strips (evs t xs)))) h):=by simp only[opsA,stepO,stepA,R.kd,qT]
theorem qoV{P:Program}{b:Nat}{r:List RO}{K:Nx}{t:List AV}{h:List AObj}{d:Nat} {xs:List X}{j:Nat}{u:Bool}:opsA P b (⟨some d,some (j,u),.nilchk,xs⟩::r) K t h=(zH (zJ j t)=true∧(qQ (zJ j t) u=true→flags (evs t xs)∧okL h (.nilchk) (strips (evs t xs)))∧opsA P b r K (jj d t (.gd (qQ (zJ j t) u) (valL h (.nilchk) (strips (evs t xs))))) h):=by simp only[opsA,stepO,kM,R.kd,qT]
theorem qD3{P:Program}{b:Nat}{r:List RO}{K:Nx}{t:List AV}{h:List AObj}{d:Nat}{z:Nat}{lo hi:Bool}{xs:List X}:opsA P b (⟨some d,none,.slc z lo hi,xs⟩::r) K t h=(flags (evs t xs)∧okL h (.slc z lo hi) (strips (evs t xs))∧opsA P b r K (jj d t (valL h (.slc z lo hi) (strips (evs t xs)))) h):=by simp only[opsA,stepO,stepA,R.kd,qT]
theorem qBs{P:Program}{b:Nat}{r:List RO}{K:Nx}{t:List AV}{h:List AObj}{d:Nat}{c x y:X}:opsA P b (⟨some d,none,.pick,[c,x,y]⟩::r) K t h=(qaK (ev t c) (ev t x) (ev t y)∧opsA P b r K (jj d t (kh (ev t c) (ev t x) (ev t y))) h):=by simp only[opsA,stepO,stepA,R.kd,qT,evs]
theorem qwn{P:Program}{b:Nat}{r:List RO}{K:Nx}{t:List AV}{h:List AObj}{d:Nat}{c x y:X}{j:Nat}{u:Bool}:opsA P b (⟨some d,some (j,u),.pick,[c,x,y]⟩::r) K t h=(zH (zJ j t)=true∧(qQ (zJ j t) u=true→qaK (ev t c) (ev t x) (ev t y))∧opsA P b r K (jj d t (.gd (qQ (zJ j t) u) (kh (ev t c) (ev t x) (ev t y)))) h):=by simp only[opsA,stepO,kM,R.kd,qT,evs]
theorem qBr{P:Program}{b:Nat}{r:List RO}{K:Nx}{t:List AV}{h:List AObj}{d:Option Nat}{j z:Nat}{ty:TypeId}{xs:List X}:opsA P b (⟨d,none,.nilo j z ty,xs⟩::r) K t h=(flags (evs t xs)∧effE b h (.nilo j z ty) (strips (evs t xs)) t d (opsA P b r K)):=by simp only[opsA,stepO,stepA,R.kd]
theorem qwc{P:Program}{b:Nat}{r:List RO}{K:Nx}{t:List AV}{h:List AObj}{d:Option Nat}{j:Nat}{ty:TypeId}{z:List AV}{xs:List X}:opsA P b (⟨d,none,.alloc j ty z,xs⟩::r) K t h=(flags (evs t xs)∧effE b h (.alloc j ty z) (strips (evs t xs)) t d (opsA P b r K)):=by simp only[opsA,stepO,stepA,R.kd]
theorem qDW{P:Program}{b:Nat}{r:List RO}{K:Nx}{t:List AV}{h:List AObj}{d:Option Nat}{j:Nat}{ty:TypeId}{xs:List X}:opsA P b (⟨d,none,.box j ty,xs⟩::r) K t h=(flags (evs t xs)∧effE b h (.box j ty) (strips (evs t xs)) t d (opsA P b r K)):=by simp only[opsA,stepO,stepA,R.kd]
theorem qwi{P:Program}{b:Nat}{r:List RO}{K:Nx}{t:List AV}{h:List AObj}{d:Option Nat}{n:Nat}{xs:List X}:opsA P b (⟨d,none,.store n,xs⟩::r) K t h=(flags (evs t xs)∧effE b h (.store n) (strips (evs t xs)) t d (opsA P b r K)):=by simp only[opsA,stepO,stepA,R.kd]
theorem qwh{P:Program}{b:Nat}{r:List RO}{K:Nx}{t:List AV}{h:List AObj}{d:Option Nat}{j z m:Nat}{ty:TypeId}{zs:List AV}{xs:List X}:opsA P b (⟨d,none,.mkslc j z ty zs m,xs⟩::r) K t h=(flags (evs t xs)∧effE b h (.mkslc j z ty zs m) (strips (evs t xs)) t d (opsA P b r K)):=by simp only[opsA,stepO,stepA,R.kd]
theorem qBj{P:Program}{b:Nat}{r:List RO}{K:Nx}{t:List AV}{h:List AObj}{d:Option Nat}{j z n:Nat}{ty:TypeId}{zs:List AV}{ps:List (Nat×Nat)}{xs:List X}:opsA P b (⟨d,none,.bslc j z n ty zs ps,xs⟩::r) K t h=(flags (evs t xs)∧effE b h (.bslc j z n ty zs ps) (strips (evs t xs)) t d (opsA P b r K)):=by simp only[opsA,stepO,stepA,R.kd]
theorem qDT{P:Program}{b:Nat}{r:List RO}{K:Nx}{t:List AV}{h:List AObj}{d:Option Nat}{j z m:Nat}{ty:TypeId}{xs:List X}:opsA P b (⟨d,none,.app j z ty m,xs⟩::r) K t h=(flags (evs t xs)∧effE b h (.app j z ty m) (strips (evs t xs)) t d (opsA P b r K)):=by simp only[opsA,stepO,stepA,R.kd]
theorem qBi{P:Program}{b:Nat}{r:List RO}{K:Nx}{t:List AV}{h:List AObj}{d:Option Nat}{j:Nat}{ty:TypeId}{xs:List X}:opsA P b (⟨d,none,.apps j ty,xs⟩::r) K t h=(flags (evs t xs)∧effE b h (.apps j ty) (strips (evs t xs)) t d (opsA P b r K)):=by simp only[opsA,stepO,stepA,R.kd]
theorem qBk{P:Program}{b:Nat}{r:List RO}{K:Nx}{t:List AV}{h:List AObj}{d:Option Nat}{f:Nat}{p:Bool}{xs:List X}:opsA P b (⟨d,none,.call f p,xs⟩::r) K t h=qk3 P f p (evs t xs) d (opsA P b r K) t h:=by simp only[opsA,stepO,stepA,R.kd]
theorem qwj{P:Program}{b:Nat}{r:List RO}{K:Nx}{t:List AV}{h:List AObj}{d:Option Nat}{f:Nat}{p:Bool}{xs:List X}{j:Nat}{u:Bool}:opsA P b (⟨d,some (j,u),.call f p,xs⟩::r) K t h=(zH (zJ j t)=true∧qk4 P f p (qQ (zJ j t) u) (evs t xs) d (opsA P b r K) t h):=by simp only[opsA,stepO,kM,R.kd]
theorem qwe{P:Program}{b:Nat}{r:List RO}{K:Nx}{t:List AV}{h:List AObj}{d:Option Nat}{xs:List X}:opsA P b (⟨d,none,.callv,xs⟩::r) K t h=(flags (evs t xs)∧qbn P (strips (evs t xs)) d (opsA P b r K) t h):=by simp only[opsA,stepO,stepA,R.kd]
theorem qDZ{P:Program}{b:Nat}{K:Nx}{t:List AV}{h:List AObj}:opsA P b [] K t h=K t h:=(rfl)
theorem quf{t:List AV}:evs t []= []:=rfl
theorem qpU{t:List AV}{x:X}{r:List X}:evs t (x::r)=ev t x::evs t r:=rfl
theorem qjD:strips []= []:=rfl
theorem qg0{x:AV}{r:List AV}:strips (x::r)=x.strip::strips r:=rfl
theorem qlZ:flags []=True:=rfl
theorem qiQ{x:AV}{r:List AV}:flags (x::r)=(x.flag=true∧flags r):=rfl
theorem qkx{k l:IntKind}{a c:Int}:qaz .add (.int k a) (.int l c)= .int k (k.wrap (a+c)):=rfl
theorem qkb{k l:IntKind}{a c:Int}:qaD .add (.int k a) (.int l c)=(k=l):=rfl
theorem qkK{k l:IntKind}{a c:Int}:qaz .sub (.int k a) (.int l c)= .int k (k.wrap (a-c)):=rfl
theorem qko{k l:IntKind}{a c:Int}:qaD .sub (.int k a) (.int l c)=(k=l):=rfl
theorem qkE{k l:IntKind}{a c:Int}:qaz .mul (.int k a) (.int l c)= .int k (k.wrap (a*c)):=rfl
theorem qki{k l:IntKind}{a c:Int}:qaD .mul (.int k a) (.int l c)=(k=l):=rfl
theorem qkG{k l:IntKind}{a c:Int}:qaz .quo (.int k a) (.int l c)= .int k (k.wrap (a.tdiv c)):=rfl
theorem qkk{k l:IntKind}{a c:Int}:qaD .quo (.int k a) (.int l c)=(k=l∧c≠0):=rfl
theorem qkH{k l:IntKind}{a c:Int}:qaz .rem (.int k a) (.int l c)= .int k (a.tmod c):=rfl
theorem qkl{k l:IntKind}{a c:Int}:qaD .rem (.int k a) (.int l c)=(k=l∧c≠0):=rfl
theorem qkI{k l:IntKind}{a c:Int}:qaz .shl (.int k a) (.int l c)= .int k (qFH k a c):=rfl
theorem qkm{k l:IntKind}{a c:Int}:qaD .shl (.int k a) (.int l c)=(0≤c):=rfl
theorem qkJ{k l:IntKind}{a c:Int}:qaz .shr (.int k a) (.int l c)= .int k (qwH k a c):=rfl
theorem qkn{k l:IntKind}{a c:Int}:qaD .shr (.int k a) (.int l c)=(0≤c):=rfl
theorem qkz{k l:IntKind}{a c:Int}:qaz .eql (.int k a) (.int l c)= .bool (decide (a=c)):=rfl
theorem qkd{k l:IntKind}{a c:Int}:qaD .eql (.int k a) (.int l c)=(k=l):=rfl
theorem qkF{k l:IntKind}{a c:Int}:qaz .neq (.int k a) (.int l c)= .bool (!decide (a=c)):=rfl
theorem qkj{k l:IntKind}{a c:Int}:qaD .neq (.int k a) (.int l c)=(k=l):=rfl
theorem qkD{k l:IntKind}{a c:Int}:qaz .lss (.int k a) (.int l c)= .bool (decide (a<c)):=rfl
theorem qkh{k l:IntKind}{a c:Int}:qaD .lss (.int k a) (.int l c)=(k=l):=rfl
theorem qkC{k l:IntKind}{a c:Int}:qaz .leq (.int k a) (.int l c)= .bool (decide (a≤c)):=rfl
theorem qkg{k l:IntKind}{a c:Int}:qaD .leq (.int k a) (.int l c)=(k=l):=rfl
theorem qkB{k l:IntKind}{a c:Int}:qaz .gtr (.int k a) (.int l c)= .bool (decide (c<a)):=rfl
theorem qkf{k l:IntKind}{a c:Int}:qaD .gtr (.int k a) (.int l c)=(k=l):=rfl
theorem qkA{k l:IntKind}{a c:Int}:qaz .geq (.int k a) (.int l c)= .bool (decide (c≤a)):=rfl
theorem qke{k l:IntKind}{a c:Int}:qaD .geq (.int k a) (.int l c)=(k=l):=rfl
theorem qky{k l:IntKind}{a c:Int}:qaz .and (.int k a) (.int l c)= .int k (qoY k a c):=rfl
theorem qkc{k l:IntKind}{a c:Int}:qaD .and (.int k a) (.int l c)=(k=l):=rfl
theorem qpi{k l:IntKind}{a c:Int}:qaz .or (.int k a) (.int l c)= .int k (orK k a c):=rfl
theorem qph{k l:IntKind}{a c:Int}:qaD .or (.int k a) (.int l c)=(k=l):=rfl
theorem qkL{k l:IntKind}{a c:Int}:qaz .xor (.int k a) (.int l c)= .int k (qF8 k a c):=rfl
theorem qkp{k l:IntKind}{a c:Int}:qaD .xor (.int k a) (.int l c)=(k=l):=rfl
theorem qfc{k l:IntKind}{a c:Int}:qaz .andNot (.int k a) (.int l c)= .int k (qtd k a c):=rfl
theorem qfb{k l:IntKind}{a c:Int}:qaD .andNot (.int k a) (.int l c)=(k=l):=rfl
theorem qkM{s u:List UInt8}:qaz .add (.str s) (.str u)= .str (s++u):=rfl
theorem qkq{s u:List UInt8}:qaD .add (.str s) (.str u)=(s.length+u.length≤9223372036854775807):=rfl
theorem qkN{s u:List UInt8}:qaz .eql (.str s) (.str u)= .bool (decide (s=u)):=rfl
theorem qkr{s u:List UInt8}:qaD .eql (.str s) (.str u)=True:=rfl
theorem qkS{s u:List UInt8}:qaz .neq (.str s) (.str u)= .bool (!decide (s=u)):=rfl
theorem qkw{s u:List UInt8}:qaD .neq (.str s) (.str u)=True:=rfl
theorem qkR{s u:List UInt8}:qaz .lss (.str s) (.str u)= .bool (Op.bytesLess s u):=rfl
theorem qkv{s u:List UInt8}:qaD .lss (.str s) (.str u)=True:=rfl
theorem qkQ{s u:List UInt8}:qaz .leq (.str s) (.str u)= .bool (Op.bytesLess s u||decide (s=u)):=rfl
theorem qku{s u:List UInt8}:qaD .leq (.str s) (.str u)=True:=rfl
theorem qkP{s u:List UInt8}:qaz .gtr (.str s) (.str u)= .bool (!(Op.bytesLess s u||decide (s=u))):=rfl
theorem qkt{s u:List UInt8}:qaD .gtr (.str s) (.str u)=True:=rfl
theorem qkO{s u:List UInt8}:qaz .geq (.str s) (.str u)= .bool (!Op.bytesLess s u):=rfl
theorem qks{s u:List UInt8}:qaD .geq (.str s) (.str u)=True:=rfl
theorem qoE{n p q:Bool}:valP (.bool n) [.bool p,.bool q]= .bool (n !=(p==q)):=rfl
theorem qqS{n p q:Bool}:okP (.bool n) [.bool p,.bool q]=True:=rfl
theorem qr4{p:Bool}:valP (.un .not) [.bool p]= .bool (!p):=rfl
theorem qvc{p:Bool}:okP (.un .not) [.bool p]=True:=rfl
theorem qr3{k:IntKind}{n:Int}:valP (.un .neg) [.int k n]= .int k (k.wrap (0-n)):=rfl
theorem qvb{k:IntKind}{n:Int}:okP (.un .neg) [.int k n]=True:=rfl
theorem qoF{k l:IntKind}{n:Int}:valP (.conv k) [.int l n]= .int k (k.wrap n):=rfl
theorem qqT{k l:IntKind}{n:Int}:okP (.conv k) [.int l n]=True:=rfl
theorem qdA{n:Bool}{x:AV}:valP (.isnil .ptr n) [x]= .bool (n !=(zw .ptr x).getD false):=rfl
theorem qex{n:Bool}{x:AV}:okP (.isnil .ptr n) [x]=((zw .ptr x).isSome=true):=rfl
theorem qdp{n:Bool}{x:AV}:valP (.isnil .func n) [x]= .bool (n !=(zw .func x).getD false):=rfl
theorem qdw{n:Bool}{x:AV}:okP (.isnil .func n) [x]=((zw .func x).isSome=true):=rfl
theorem qcF{n:Bool}{x:AV}:valP (.isnil .iface n) [x]= .bool (n !=(zw .iface x).getD false):=rfl
theorem qdj{n:Bool}{x:AV}:okP (.isnil .iface n) [x]=((zw .iface x).isSome=true):=rfl
theorem qat{n:Bool}{m:Nat}{f:Nat→List AV}:valP (.isnil .slice n) [.sl m f]=if m=0 then .anyb else .bool (n !=false):=rfl
theorem qfI{n:Bool}{m:Nat}{f:Nat→List AV}:okP (.isnil .slice n) [.sl m f]=True:=rfl
theorem qeU{n:Bool}:valP (.isnil .slice n) [.nl]= .bool (n !=true):=rfl
theorem qfH{n:Bool}:okP (.isnil .slice n) [.nl]=True:=by simp[okP,zw]
theorem qiy(A B:Nx)(t:List AV)(h:List AObj):qgp .anyb A B t h=(A t h∧B t h):=rfl
theorem qju:AV.strip .anyb= .anyb:=rfl
theorem qlQ:AV.flag .anyb=true:=rfl
theorem qjg:AV.solid .anyb=true:=rfl
theorem qis:AV.cells .anyb= [.anyb]:=rfl
theorem qmG:zw .ptr .nilp=some true:=rfl
theorem qiY:zw .func .nilfn=some true:=rfl
theorem qiZ:zw .iface .nilif=some true:=rfl
theorem qu3:zw .slice .nl=some true:=rfl
theorem qu2{c:List AV}:zw .ptr (.ip c)=some false:=rfl
theorem qu1{f:Fn}{a c:List AV}:zw .func (.fn f a c)=some false:=rfl
theorem qqF:zw .iface .ifc=some false:=rfl
theorem qr0{ks:List AK}{n:Bool}{x y:List AV}:valP (.aeq ks n) [.agg x,.agg y]= .bool (n !=(zE ks x y).getD false):=rfl
theorem qu8{ks:List AK}{n:Bool}{x y:List AV}:okP (.aeq ks n) [.agg x,.agg y]=((zE ks x y).isSome=true):=rfl
theorem qr2{p:Nat}{n:Option Nat}{c:List AV}:valP (.fld p n) [.agg c]=cut c p n:=rfl
theorem qva{p:Nat}{n:Option Nat}{c:List AV}:okP (.fld p n) [.agg c]=kB c p n:=rfl
theorem qtV{p:Nat}{c:List AV}:kB c p none=(p<c.length):=rfl
theorem qtW{p n:Nat}{c:List AV}:kB c p (some n)=(p+n≤c.length):=rfl
theorem qr1{i:Nat}{c:List AV}:valP (.ext i) [.tup c]=(c[i]?).getD .undef:=rfl
theorem qu9{i:Nat}{c:List AV}:okP (.ext i) [.tup c]=(i<c.length):=rfl
theorem qjQ{z:List AV}{ps:List (Nat×Nat)}{vs:List AV}:valP (.build z ps) vs= .agg (qaG z ps vs):=by cases vs<;>rfl
theorem qmR{z:List AV}{ps:List (Nat×Nat)}{vs:List AV}:okP (.build z ps) vs=qau z.length ps vs:=by cases vs<;>rfl
theorem qiI{n:Nat}:qau n [] []=True:=rfl
theorem qgt{m p n:Nat}{ps:List (Nat×Nat)}{v:AV}{vs:List AV}:qau m ((p,n)::ps) (v::vs)=(v.solid=true∧v.cells.length=n∧p+n≤m∧qau m ps vs):=rfl
theorem qlN{z:List AV}{ps:List (Nat×Nat)}:qaG z ps []=z:=by cases ps<;>rfl
theorem qiH{z:List AV}{p n:Nat}{ps:List (Nat×Nat)}{v:AV}{vs:List AV}:qaG z ((p,n)::ps) (v::vs)=qaG (z.take p++v.cells++z.drop (p+n)) ps vs:=rfl
theorem qoL{f:Fn}{n:Nat}{vs:List AV}:valP (.mkfn f n) vs= .fn f (vs.take n) (vs.drop n):=by cases vs<;>rfl
theorem qqW{f:Fn}{n:Nat}{vs:List AV}:okP (.mkfn f n) vs=(n≤vs.length):=by cases vs<;>rfl
theorem qoM{s:List UInt8}{k:IntKind}{i:Int}:valP .sidx [.str s,.int k i]= .int .u8 ((s[i.toNat]?).getD 0).toNat:=rfl
theorem qoD{cs:List AV}{k:IntKind}{i:Int}{n1 n2:Nat}{n3:Option Nat}:valP (.aidx n1 n2 n3) [.agg cs,.int k i]=cut cs (i.toNat*n2) n3:=rfl
theorem qqR{cs:List AV}{k:IntKind}{i:Int}{n1 n2:Nat}{n3:Option Nat}:okP (.aidx n1 n2 n3) [.agg cs,.int k i]=((0≤i∧i<n1)∧kB cs (i.toNat*n2) n3):=rfl
theorem qqX{s:List UInt8}{k:IntKind}{i:Int}:okP .sidx [.str s,.int k i]=(0≤i∧i<s.length):=rfl
theorem qjS{s:List UInt8}{k m:IntKind}{a c:Int}:valP (.sslc true true) [.str s,.int k a,.int m c]= .str ((s.drop (a:Int).toNat).take ((c:Int).toNat-(a:Int).toNat)):=by simp[valP,loB,hiB]
theorem qmT{s:List UInt8}{k m:IntKind}{a c:Int}:okP (.sslc true true) [.str s,.int k a,.int m c]=(0≤(a:Int)∧(a:Int)≤c∧c≤(s.length:Int)):=by simp[okP,loB,hiB,qdb]
theorem qoP{s:List UInt8}{k:IntKind}{a:Int}:valP (.sslc true false) [.str s,.int k a]= .str ((s.drop (a:Int).toNat).take (((s.length:Int):Int).toNat-(a:Int).toNat)):=by simp[valP,loB,hiB]
theorem qq0{s:List UInt8}{k:IntKind}{a:Int}:okP (.sslc true false) [.str s,.int k a]=(0≤(a:Int)∧(a:Int)≤(s.length:Int)∧(s.length:Int)≤(s.length:Int)):=by simp[okP,loB,hiB,qdb]
theorem qoB{g:List AObj}{z w v y p n:Nat}{k:IntKind}{a:Int}:valL g (.slc z true false) [.osl w v y p n,.int k a]= .osl w v y (p+(a:Int).toNat*y) (((n:Int):Int).toNat-(a:Int).toNat):=by simp[valL,loB,hiB]
theorem qqP{g:List AObj}{z w v y p n:Nat}{k:IntKind}{a:Int}:okL g (.slc z true false) [.osl w v y p n,.int k a]=((0≤(a:Int)∧(a:Int)≤(n:Int)∧(n:Int)≤(n:Int))∧y=z∧qF g w v=true∧((a:Int)=0∨(a:Int)<n)):=by simp[okL,loB,hiB,qdb,and_assoc]
theorem qoO{s:List UInt8}{k:IntKind}{c:Int}:valP (.sslc false true) [.str s,.int k c]= .str ((s.drop (0:Int).toNat).take ((c:Int).toNat-(0:Int).toNat)):=by simp[valP,loB,hiB]
theorem qqZ{s:List UInt8}{k:IntKind}{c:Int}:okP (.sslc false true) [.str s,.int k c]=(0≤(0:Int)∧(0:Int)≤c∧c≤(s.length:Int)):=by simp[okP,loB,hiB,qdb]
theorem qoC{g:List AObj}{z n:Nat}{f:Nat→List AV}{k:IntKind}{c:Int}:valL g (.slc z false true) [.sl n f,.int k c]= .sl ((c:Int).toNat-(0:Int).toNat) (fun i=>f ((0:Int).toNat+i)):=by simp[valL,loB,hiB]
theorem qqQ{g:List AObj}{z n:Nat}{f:Nat→List AV}{k:IntKind}{c:Int}:okL g (.slc z false true) [.sl n f,.int k c]=((0≤(0:Int)∧(0:Int)≤c∧c≤(n:Int))∧(0<n→(f 0).length=z)):=by simp[okL,loB,hiB,qdb,and_assoc]
theorem qoA{g:List AObj}{z w v y p n:Nat}{k:IntKind}{c:Int}:valL g (.slc z false true) [.osl w v y p n,.int k c]= .osl w v y (p+(0:Int).toNat*y) ((c:Int).toNat-(0:Int).toNat):=by simp[valL,loB,hiB]
theorem qqO{g:List AObj}{z w v y p n:Nat}{k:IntKind}{c:Int}:okL g (.slc z false true) [.osl w v y p n,.int k c]=((0≤(0:Int)∧(0:Int)≤c∧c≤(n:Int))∧y=z∧qF g w v=true∧((0:Int)=0∨(0:Int)<n)):=by simp[okL,loB,hiB,qdb,and_assoc]
theorem qoH{k l:IntKind}{a c:Int}:valP (.mm true) [.int k a,.int l c]= .int k (max a c):=rfl
theorem qoJ{k l:IntKind}{a c:Int}:valP (.mm false) [.int k a,.int l c]= .int k (min a c):=rfl
theorem qoI{k l m:IntKind}{a c e:Int}:valP (.mm true) [.int k a,.int l c,.int m e]= .int k (max (max a c) e):=rfl
theorem qoK{k l m:IntKind}{a c e:Int}:valP (.mm false) [.int k a,.int l c,.int m e]= .int k (min (min a c) e):=rfl
theorem qjO{g:List AObj}{n:Nat}{f:Nat→List AV}:valL g .len [.sl n f]= .int .i64 n:=rfl
theorem qmQ{g:List AObj}{n:Nat}{f:Nat→List AV}:okL g .len [.sl n f]=True:=rfl
theorem qjN{g:List AObj}:valL g .len [.nl]= .int .i64 0:=rfl
theorem qmP{g:List AObj}:okL g .len [.nl]=True:=rfl
theorem qoN{s:List UInt8}:valP .slen [.str s]= .int .i64 s.length:=rfl
theorem qqY{s:List UInt8}:okP .slen [.str s]=True:=rfl
theorem qg9{g:List AObj}{k v z p n:Nat}:valL g .len [.osl k v z p n]= .int .i64 n:=rfl
theorem qi4{g:List AObj}{k v z p n:Nat}:okL g .len [.osl k v z p n]=(qF g k v=true):=rfl
theorem qjL{g:List AObj}{z n:Nat}{f:Nat→List AV}{k:IntKind}{i:Int}:valL g (.idxA z) [.sl n f,.int k i]= .ip (f i.toNat):=rfl
theorem qmN{g:List AObj}{z n:Nat}{f:Nat→List AV}{k:IntKind}{i:Int}:okL g (.idxA z) [.sl n f,.int k i]=((0≤i∧i<n)∧(f i.toNat).length=z):=rfl
theorem qg8{g:List AObj}{z q v y p n:Nat}{k:IntKind}{i:Int}:valL g (.idxA z) [.osl q v y p n,.int k i]= .op q v (p+i.toNat*y):=rfl
theorem qi3{g:List AObj}{z q v y p n:Nat}{k:IntKind}{i:Int}:okL g (.idxA z) [.osl q v y p n,.int k i]=((0≤i∧i<n)∧y=z∧(cellsOf g q v).isSome=true):=rfl
theorem qjH{g:List AObj}{m z:Nat}{c:List AV}{k:IntKind}{i:Int}:valL g (.idxArr m z) [.ip c,.int k i]= .ip ((c.drop (i.toNat*z)).take z):=rfl
theorem qmI{g:List AObj}{m z:Nat}{c:List AV}{k:IntKind}{i:Int}:okL g (.idxArr m z) [.ip c,.int k i]=((0≤i∧i<m)∧c.length=m*z):=rfl
theorem qjI{g:List AObj}{m z q v p:Nat}{k:IntKind}{i:Int}:valL g (.idxArr m z) [.op q v p,.int k i]= .op q v (p+i.toNat*z):=rfl
theorem qmJ{g:List AObj}{m z q v p:Nat}{k:IntKind}{i:Int}:okL g (.idxArr m z) [.op q v p,.int k i]=((0≤i∧i<m)∧(cellsOf g q v).isSome=true):=rfl
theorem qjJ{g:List AObj}{p:Nat}{c:List AV}:valL g (.fldA p) [.ip c]= .ip (c.drop p):=rfl
theorem qmL{g:List AObj}{p:Nat}{c:List AV}:okL g (.fldA p) [.ip c]=(p<c.length):=rfl
theorem qjK{g:List AObj}{p q v o:Nat}:valL g (.fldA p) [.op q v o]= .op q v (o+p):=rfl
theorem qmM{g:List AObj}{p q v o:Nat}:okL g (.fldA p) [.op q v o]=((cellsOf g q v).isSome=true):=rfl
theorem qov{g:List AObj}{n:Option Nat}{c:List AV}:valL g (.load n) [.ip c]=cut c 0 n:=rfl
theorem qqJ{g:List AObj}{n:Option Nat}{c:List AV}:okL g (.load n) [.ip c]=kB c 0 n:=rfl
theorem qow{g:List AObj}{n:Option Nat}{q v p:Nat}:valL g (.load n) [.op q v p]=cut ((cellsOf g q v).getD []) p n:=rfl
theorem qqK{g:List AObj}{n:Option Nat}{q v p:Nat}:okL g (.load n) [.op q v p]=((cellsOf g q v).isSome=true∧kB ((cellsOf g q v).getD []) p n):=rfl
theorem qoy{g:List AObj}{c:List AV}:valL g .nilchk [.ip c]= .ip c:=rfl
theorem qqM{g:List AObj}{c:List AV}:okL g .nilchk [.ip c]=True:=rfl
theorem qoz{g:List AObj}{q v p:Nat}:valL g .nilchk [.op q v p]= .op q v p:=rfl
theorem qqN{g:List AObj}{q v p:Nat}:okL g .nilchk [.op q v p]=((cellsOf g q v).isSome=true):=rfl
theorem qox{g:List AObj}{f:Fn}{a c:List AV}:valL g .nilchk [.fn f a c]= .fn f a c:=rfl
theorem qqL{g:List AObj}{f:Nat}{a c:List AV}:okL g .nilchk [.fn (.func f) a c]=True:=rfl
theorem qpM{c:List AV}{p:Nat}:cut c p none=(c[p]?).getD .undef:=rfl
theorem qpN{c:List AV}{p n:Nat}:cut c p (some n)= .agg ((c.drop p).take n):=rfl
theorem qqq{b w:Bool}:qQ (.bool b) w=(b==w):=rfl
theorem qme{g b w:Bool}:qQ (.gd g (.bool b)) w=(g&&(b==w)):=rfl
theorem qmf{b:Bool}:zH (.bool b)=true:=rfl
theorem qiT{g b:Bool}:zH (.gd g (.bool b))=true:=rfl
theorem qq3{c:Bool}{x y:AV}:qaK (.bool c) x y=((c=true→x.flag=true)∧(c=false→y.flag=true)):=rfl
theorem qm4{g c:Bool}{x y:AV}:qaK (.gd g (.bool c)) x y=(g=true∧(c=true→x.flag=true)∧(c=false→y.flag=true)):=rfl
theorem qm5{c p q:Bool}:kh (.bool c) (.bool p) (.bool q)= .bool ((c&&p)||(!c&&q)):=rfl
theorem qnb{c p q gc:Bool}:kh (.gd gc (.bool c)) (.bool p) (.bool q)= .bool ((c&&p)||(!c&&q)):=rfl
theorem qm6{c p q gq:Bool}:kh (.bool c) (.bool p) (.gd gq (.bool q))= .bool ((c&&p)||(!c&&q)):=rfl
theorem qnc{c p q gq gc:Bool}:kh (.gd gc (.bool c)) (.bool p) (.gd gq (.bool q))= .bool ((c&&p)||(!c&&q)):=rfl
theorem qm7{c p q gp:Bool}:kh (.bool c) (.gd gp (.bool p)) (.bool q)= .bool ((c&&p)||(!c&&q)):=rfl
theorem qnd{c p q gp gc:Bool}:kh (.gd gc (.bool c)) (.gd gp (.bool p)) (.bool q)= .bool ((c&&p)||(!c&&q)):=rfl
theorem qm8{c p q gp gq:Bool}:kh (.bool c) (.gd gp (.bool p)) (.gd gq (.bool q))= .bool ((c&&p)||(!c&&q)):=rfl
theorem qne{c p q gp gq gc:Bool}:kh (.gd gc (.bool c)) (.gd gp (.bool p)) (.gd gq (.bool q))= .bool ((c&&p)||(!c&&q)):=rfl
theorem qyd{P:Program}{b:Nat}{Q:Ex→Nx}{t:List AV}{h:List AObj}:qX P b .skip Q t h=Q .normal t h:=(rfl)
theorem qCp{P:Program}{b:Nat}{Q:Ex→Nx}{t:List AV}{h:List AObj}{l:List RO}:qX P b (.ops l) Q t h=opsA P b l (Q .normal) t h:=(rfl)
theorem qCr{P:Program}{b:Nat}{Q:Ex→Nx}{t:List AV}{h:List AObj}{x y:C}:qX P b (.seq x y) Q t h=qX P b x (Ex.andThen (qX P b y Q) Q) t h:=(rfl)
theorem qyb{P:Program}{b:Nat}{Q:Ex→Nx}{t:List AV}{h:List AObj}{c:X}{x y:C}:qX P b (.cond c x y) Q t h=qgp (ev t c) (qX P b x Q) (qX P b y Q) t h:=(rfl)
theorem qtC{P:Program}{b:Nat}{Q:Ex→Nx}{t:List AV}{h:List AObj}{i:Nat}{x:C}:qX P b (.block i x) Q t h=qX P b x (Ex.inBlock i Q) t h:=(rfl)
theorem qyc{P:Program}{b:Nat}{Q:Ex→Nx}{t:List AV}{h:List AObj}{i:Nat}:qX P b (.exit i) Q t h=Q (.exit i) t h:=(rfl)
theorem qCq{P:Program}{b:Nat}{Q:Ex→Nx}{t:List AV}{h:List AObj}:qX P b .ret Q t h=Q .ret t h:=(rfl)
theorem qEV{K:Nx}{Q:Ex→Nx}{t:List AV}{h:List AObj}:Ex.andThen K Q .normal t h=K t h:=(rfl)
theorem qEU{K:Nx}{Q:Ex→Nx}{t:List AV}{h:List AObj}{i:Nat}:Ex.andThen K Q (.exit i) t h=Q (.exit i) t h:=(rfl)
theorem qEW{K:Nx}{Q:Ex→Nx}{t:List AV}{h:List AObj}:Ex.andThen K Q .ret t h=Q .ret t h:=(rfl)
theorem qFh{i:Nat}{Q:Ex→Nx}{t:List AV}{h:List AObj}:Ex.inBlock i Q .normal t h=Q .normal t h:=(rfl)
theorem qFi{i:Nat}{Q:Ex→Nx}{t:List AV}{h:List AObj}:Ex.inBlock i Q .ret t h=Q .ret t h:=(rfl)
theorem qFg{i j:Nat}{Q:Ex→Nx}{t:List AV}{h:List AObj}:Ex.inBlock i Q (.exit j) t h=if j=i then Q .normal t h else Q (.exit j) t h:=(rfl)
end AF
end
section
namespace AF
open Go
attribute [go_sem] qBh qoD qqR qz3 qAQ qz4 qAR qz5 qAS qz6 qAT qz7 qAU qz8 qAV qz9 qAW qAa qAX quA qvO qqo qrs qE7 qE6 qjv qlR qjh qit qob qp1 qnT qli qof qp5 qnX qlm qrQ qun qrE qpG qod qp3 qnV qlk qn9 qpZ qnR qog qp6 qln qrN quk qrB qpD qrP qum qrD qpF qjz qlV qjk qiw qrO qul qrC qpE qrL qui qrA qpB qoh qp7 qnY qlo qgV qiL qgM qgm qoa qp0 qnS qlh qgW qiM qgN qgn qgZ qiP qlg qrM quj qFX qEa qDV qBQ qFY qEb qBl qwf qDS qDX qwd qr8 qBq qBu qwp qBt qwo qBv qwq qFW qDY qBR qBo qwl qBm qwk qBp qwm qr7 qoV qD3 qBs qwn qBr qwc qDW qwi qwh qBj qDT qBi qBk qwj qwe qDZ quf qpU qjD qg0 qlZ qiQ qkx qkb qkK qko qkE qki qkG qkk qkH qkl qkI qkm qkJ qkn qkz qkd qkF qkj qkD qkh qkC qkg qkB qkf qkA qke qky qkc qpi qph qkL qkp qfc qfb qkM qkq qkN qkr qkS qkw qkR qkv qkQ qku qkP qkt qkO qks qoE qqS qr4 qvc qr3 qvb qoF qqT qdA qex qdp qdw qcF qdj qat qfI qeU qfH qiy qju qlQ qjg qis qmG qiY qiZ qu3 qu2 qu1 qqF qr0 qu8 qr2 qva qtV qtW qr1 qu9 qjQ qmR qiI qgt qlN qiH qoL qqW qoM qqX qjS qmT qoP qq0 qoB qqP qoO qqZ qoC qqQ qoA qqO qoH qoJ qoI qoK qjO qmQ qjN qmP qoN qqY qg9 qi4 qjL qmN qg8 qi3 qjH qmI qjI qmJ qjJ qmL qjK qmM qov qqJ qow qqK qoy qqM qoz qqN qox qqL qpM qpN qqq qme qmf qiT qq3 qm4 qm5 qnb qm6 qnc qm7 qnd qm8 qne qyd qCp qCr qyb qtC qyc qCq qEV qEU qEW qFh qFi qFg
attribute [go_sem] and_true true_and List.drop_zero List.drop_succ_cons List.getElem?_cons_zero List.getElem?_cons_succ Option.getD_some List.length_cons List.length_nil Int.toNat_natCast beq_true imp_self and_self implies_true Bool.and_true Bool.and_false Bool.or_false decide_eq_true_eq Bool.and_eq_true
theorem qnC(t:List AV)(h:List AObj):qah t h []=True:=rfl
theorem qjd(t:List AV)(h:List AObj):jf t h []= []:=rfl
theorem qje(n:Nat)(l:List RV)(t:List AV)(h:List AObj):jf t h (.tmp n::l)=zJ n t::jf t h l:=rfl
theorem qrn(v:AV):qgF [v]=v:=rfl
theorem qro(v u:AV)(l:List AV):qgF (v::u::l)= .tup (v::u::l):=rfl
theorem qiz(c:Bool)(A B:Nx)(t:List AV)(h:List AObj):qgp (.bool c) A B t h=((c=true→A t h)∧(c=false→B t h)):=rfl
theorem qp{n:Int}(h0: -9223372036854775808≤n)(h1:n≤9223372036854775807):IntKind.i64.wrap n=n:=by
 have e1:(2:Int)^IntKind.bits IntKind.i64=18446744073709551616:=rfl;have e2:(2:Int)^(IntKind.bits IntKind.i64-1)=9223372036854775808:=rfl;have e3:IntKind.signed IntKind.i64=true:=rfl;unfold IntKind.wrap;rw[e1,e2,e3];simp only[Bool.true_and,decide_eq_true_eq];split<;>omega
theorem qen{rs:List RV}{h0:List AObj}{K:AV→List AObj→Prop}{t:List AV}{hh tl:List AObj}{r:AV}(e:hh=h0++tl)(hok:qah t hh rs)(hK:K r h0)(hv:VLe (frz (fun k=>decide (h0.length≤k)) hh 8 (qgF (jf t hh rs))) r):
  fnQ rs h0 K .ret t hh:=by subst e;exact qqg hok hK hv
theorem qu{P:Program}{b:Nat}{x:C}{Q:Ex→Nx}{ι:Type}{t:List AV}{h:List AObj}(T:ι→List AV)(H:ι→List AObj)(inv:ι→Prop)(m:ι→Nat)(i0:ι)(h0:inv i0)(hw:Wk t h (T i0) (H i0))
  (round: ∀i,inv i→ ∀K:Nx,(∀t' h' j,inv j→m j<m i→Wk t' h' (T j) (H j)→K t' h')→qX P b x (Ex.andThen K Q) (T i) (H i)):qX P b (.loop x) Q t h:=by
 refine⟨fun n t h=> ∃i,inv i∧m i=n∧t=T i∧h=H i,⟨m i0,T i0,H i0,hw,i0,h0,rfl,rfl,rfl⟩,?_⟩;rintro n t' h' ⟨i,hi,rfl,rfl,rfl⟩;exact round i hi _ (fun t'' h'' j hj hlt hw=>⟨m j,T j,H j,hlt,hw,j,hj,rfl,rfl,rfl⟩)
def ze(n:Nat)(l:List (Nat×AV)):List AV:=l.foldl (fun t p=>jj p.1 t p.2) (List.replicate n .undef)
theorem qbW.nil:qbW [] []:=trivial
theorem qa(a:AV):VLe a .undef=True:=by simp[VLe.undef]
theorem qf(a:AV):VLe a a=True:=by simp[VLe.refl]
theorem qh{k:IntKind}{a b:Int}(h:a=b):VLe (.int k a) (.int k b):=h▸VLe.refl _
theorem qg:qbW [] []=True:=rfl
theorem qc{a b:AV}{l m:List AV}:qbW (a::l) (b::m)=(VLe a b∧qbW l m):=rfl
theorem qd{rs:List RV}{h:List AObj}{t:List AV}{r:AV}(hok:qah t h rs)(hv:VLe (frz (fun k=>decide (h.length≤k)) h 8 (qgF (jf t h rs))) r):fnQ rs h (fun r1 h1=>r1=r∧h1=h) .ret t h:=
 qen (tl:= []) (by simp) hok ⟨rfl,rfl⟩ hv
theorem qb{rs:List RV}{h tl:List AObj}{t:List AV}{r:AV}(hok:qah t (h++tl) rs)(hv:VLe (frz (fun k=>decide (h.length≤k)) (h++tl) 8 (qgF (jf t (h++tl) rs))) r):fnQ rs h (fun r1 h1=>r1=r∧h1=h) .ret t (h++tl):=
 qen rfl hok ⟨rfl,rfl⟩ hv
section
variable {fz : Nat → Bool} {h : List AObj} {n : Nat}
theorem frz_int{k:IntKind}{a:Int}:frz fz h (n+1) (.int k a)= .int k a:=rfl
theorem frz_bool{a:Bool}:frz fz h (n+1) (.bool a)= .bool a:=rfl
theorem frz_str{a:List UInt8}:frz fz h (n+1) (.str a)= .str a:=rfl
theorem frz_sl{m:Nat}{f:Nat→List AV}:frz fz h (n+1) (.sl m f)= .sl m f:=rfl
theorem frz_nl:frz fz h (n+1) .nl= .nl:=rfl
theorem frz_nilp:frz fz h (n+1) .nilp= .nilp:=rfl
theorem frz_nilfn:frz fz h (n+1) .nilfn= .nilfn:=rfl
theorem frz_ifc:frz fz h (n+1) .ifc= .ifc:=rfl
theorem frz_nilif:frz fz h (n+1) .nilif= .nilif:=rfl
theorem frz_undef:frz fz h (n+1) .undef= .undef:=rfl
theorem frz_ip{cs:List AV}:frz fz h (n+1) (.ip cs)= .ip cs:=rfl
theorem frz_agg{cs:List AV}:frz fz h (n+1) (.agg cs)= .agg (cs.map (frz fz h n)):=rfl
theorem frz_tup{cs:List AV}:frz fz h (n+1) (.tup cs)= .tup (cs.map (frz fz h n)):=rfl
theorem frz_fn{f:Fn}{a b:List AV}:frz fz h (n+1) (.fn f a b)= .fn f (a.map (frz fz h n)) (b.map (frz fz h n)):=rfl
theorem frz_gd{g:Bool}{v:AV}:frz fz h (n+1) (.gd g v)= .gd g (frz fz h n v):=rfl
end
attribute [go_sem] frz_int frz_bool frz_str frz_sl frz_nl frz_nilp frz_nilfn frz_ifc frz_nilif frz_undef frz_ip frz_agg frz_tup frz_fn frz_gd if_true if_false List.map_cons List.map_nil
attribute [go_sem] qiz qnC qjd qje qrn qro
end AF
end
section
namespace AF
open Go
section
variable {h : List AObj} {l : List AObj} {n k v : Nat} {o : AObj} {ty : TypeId} {cs : List AV}
theorem getO_app0:qr h.length (h++l)=l[0]? :=by unfold qr;rw[List.getElem?_append_right (Nat.le_refl _),Nat.sub_self]
theorem getO_app:qr (h.length+n) (h++l)=l[n]? :=by unfold qr;rw[List.getElem?_append_right (by omega),Nat.add_sub_cancel_left]
theorem setO_app0:qn h.length (h++l) o=h++l.set 0 o:=by unfold qn;rw[List.set_append_right _ _ (Nat.le_refl _),Nat.sub_self]
theorem setO_app:qn (h.length+n) (h++l) o=h++l.set n o:=by unfold qn;rw[List.set_append_right _ _ (by omega),Nat.add_sub_cancel_left]
theorem verOf_mem:qo (some (.mem v ty cs))=v:=rfl
theorem verOf_emp:qo (some (.emp v))=v:=rfl
theorem tyOf_mem:qjF (some (.mem v ty cs))=ty:=rfl
theorem site_app:qJ (h++l) (h.length+n)=qJ l n:=by unfold qJ;rw[getO_app];rfl
theorem site_app0:qJ (h++l) h.length=qJ l 0:=by unfold qJ;rw[getO_app0];rfl
theorem site_0_mem{v:Nat}:qJ (.mem v ty cs::l) 0=true:=rfl
theorem site_0_emp{v:Nat}:qJ (.emp v::l) 0=true:=rfl
theorem site_s:qJ (o::l) (n+1)=qJ l n:=rfl
theorem cellsOf_app:cellsOf (h++l) (h.length+n) v=cellsOf l n v:=by unfold cellsOf;rw[getO_app];rfl
theorem cellsOf_app0:cellsOf (h++l) h.length v=cellsOf l 0 v:=by unfold cellsOf;rw[getO_app0];rfl
theorem cellsOf_0{w:Nat}:cellsOf (.mem w ty cs::l) 0 v=if w=v then some cs else none:=rfl
theorem cellsOf_s:cellsOf (o::l) (n+1) v=cellsOf l n v:=rfl
theorem liveS_app:qF (h++l) (h.length+n) v=qF l n v:=by unfold qF;rw[getO_app];rfl
theorem liveS_0_mem{w:Nat}:qF (.mem w ty cs::l) 0 v=(w==v):=rfl
theorem liveS_0_emp{w:Nat}:qF (.emp w::l) 0 v=(w==v):=rfl
theorem liveS_s:qF (o::l) (n+1) v=qF l n v:=rfl
theorem tyOk_mem{t:TypeId}:qjY (some (.mem v t cs)) ty=(t==ty):=rfl
theorem tyOk_emp:qjY (some (.emp v)) ty=true:=rfl
theorem b_add0{b:Nat}:b+0=b:=rfl
theorem appO_mem{t:TypeId}{ds:List AV}{c m:Nat}:qhf (some (.mem k t ds)) ty v c m cs= .mem (v+1) ty (ds.take c++cs):=rfl
theorem appO_emp{c m:Nat}:qhf (some (.emp k)) ty v c m cs=if m=0 then .emp (v+1) else .mem (v+1) ty cs:=rfl
end
section
variable {b : Nat} {h : List AObj} {t : List AV} {d : Option Nat} {nx : List AV → List AObj → Prop}
theorem qyq{j sz:Nat}{ty:TypeId}:effE b h (.nilo j sz ty) [] t d nx=(qJ h (b+j)=true∧nx (qT t d (.osl (b+j) (qo (qr (b+j) h)+1) sz 0 0)) (qn (b+j) h (.emp (qo (qr (b+j) h)+1)))):=(rfl)
theorem qt3{j:Nat}{ty:TypeId}{z:List AV}:effE b h (.alloc j ty z) [] t d nx=(qJ h (b+j)=true∧nx (qT t d (.op (b+j) (qo (qr (b+j) h)+1) 0)) (qn (b+j) h (.mem (qo (qr (b+j) h)+1) ty z))):=(rfl)
theorem qCH{j:Nat}{ty:TypeId}{v:AV}:effE b h (.box j ty) [v] t d nx=((qJ h (b+j)=true∧v.solid=true)∧nx (qT t d (.op (b+j) (qo (qr (b+j) h)+1) 0)) (qn (b+j) h (.mem (qo (qr (b+j) h)+1) ty v.cells))):=(rfl)
theorem qt6{n k ver off:Nat}{v:AV}:effE b h (.store n) [.op k ver off,v] t d nx=(((cellsOf h k ver).isSome=true∧v.solid=true∧v.cells.length=n∧off+n≤((cellsOf h k ver).getD []).length)∧
  nx (qT t d (.tup [])) (qn k h (.mem ver (qjF (qr k h)) (((cellsOf h k ver).getD []).take off++v.cells++((cellsOf h k ver).getD []).drop (off+n))))):=(rfl)
theorem qt5{j sz:Nat}{ty:TypeId}{z:List AV}{bytes:Nat}{l c:Int}:effE b h (.mkslc j sz ty z bytes) [.int .i64 l,.int .i64 c] t d nx=((qJ h (b+j)=true∧z.length=sz∧0≤l∧l=c∧c*(bytes:Int)≤140737488355328∧c≤140737488355328)∧
   nx (qT t d (.osl (b+j) (qo (qr (b+j) h)+1) sz 0 l.toNat)) (qn (b+j) h (.mem (qo (qr (b+j) h)+1) ty (qY z l.toNat)))):=(rfl)
theorem qyp{j sz n:Nat}{ty:TypeId}{z:List AV}{ps:List (Nat×Nat)}{vs:List AV}:effE b h (.bslc j sz n ty z ps) vs t d nx=((qJ h (b+j)=true∧z.length=sz∧qau (n*sz) ps vs∧n≤140737488355328)∧
   nx (qT t d (.osl (b+j) (qo (qr (b+j) h)+1) sz 0 n)) (qn (b+j) h (.mem (qo (qr (b+j) h)+1) ty (qaG (qY z n) ps vs)))):=by
 cases vs<;>rfl
theorem qt4{j sz:Nat}{ty:TypeId}{bytes:Nat}{y:AV}:effE b h (.app j sz ty bytes) [.nl,y] t d nx=(((qk h y).isSome=true∧qJ h (b+j)=true∧((qk h y).getD (0,[])).2.length=((qk h y).getD (0,[])).1*sz∧
    (((qk h y).getD (0,[])).1:Int)*bytes≤140737488355328∧(((qk h y).getD (0,[])).1:Int)≤140737488355328)∧
   nx (qT t d (.osl (b+j) (qo (qr (b+j) h)+1) sz 0 ((qk h y).getD (0,[])).1))
    (qn (b+j) h (if ((qk h y).getD (0,[])).1=0 then .emp (qo (qr (b+j) h)+1) else .mem (qo (qr (b+j) h)+1) ty ((qk h y).getD (0,[])).2))):=(rfl)
theorem qCG{j sz:Nat}{ty:TypeId}{bytes k ver sz' off m:Nat}{y:AV}:effE b h (.app j sz ty bytes) [.osl k ver sz' off m,y] t d nx=(((qk h y).isSome=true∧qF h k ver=true∧qjY (qr k h) ty=true∧m*sz≤((cellsOf h k ver).getD []).length∧qch (.osl k ver sz' off m) y=true∧sz'=sz∧off=0∧
    ((qk h y).getD (0,[])).2.length=((qk h y).getD (0,[])).1*sz∧
    ((m+((qk h y).getD (0,[])).1:Nat):Int)*bytes≤140737488355328∧((m+((qk h y).getD (0,[])).1:Nat):Int)≤140737488355328)∧
   nx (qT t d (.osl k (ver+1) sz 0 (m+((qk h y).getD (0,[])).1)))
    (qn k h (qhf (qr k h) ty ver (m*sz) ((qk h y).getD (0,[])).1 ((qk h y).getD (0,[])).2))):=(rfl)
theorem qyo{j:Nat}{ty:TypeId}{s:List UInt8}{k ver sz' off m:Nat}:effE b h (.apps j ty) [.osl k ver sz' off m,.str s] t d nx=((qF h k ver=true∧qjY (qr k h) ty=true∧m≤((cellsOf h k ver).getD []).length∧sz'=1∧off=0∧((m+s.length:Nat):Int)≤140737488355328)∧
   nx (qT t d (.osl k (ver+1) 1 0 (m+s.length)))
    (qn k h (qhf (qr k h) ty ver m s.length (zI s)))):=(rfl)
theorem qnm{n:Nat}{v:AV}:qT t (some n) v=jj n t v:=rfl
theorem qnl{v:AV}:qT t none v=t:=rfl
theorem qeL:qk h .nl=some (0,[]):=rfl
theorem qeM{n:Nat}{f:Nat→List AV}:qk h (.sl n f)=some (n,(List.range n).flatMap f):=rfl
end
attribute [go_sem] getO_app0 getO_app setO_app0 setO_app verOf_mem verOf_emp tyOf_mem site_app site_app0 site_0_mem site_0_emp site_s cellsOf_app cellsOf_app0 cellsOf_0 cellsOf_s liveS_app liveS_0_mem liveS_0_emp liveS_s tyOk_mem tyOk_emp b_add0 appO_mem appO_emp
attribute [go_sem] qyq qt3 qCH qt6 qt5 qyp qt4 qCG qyo qnm qnl qeL qeM
attribute [go_sem] List.set_cons_zero List.set_cons_succ Option.isSome_some List.take_zero List.take_succ_cons List.take_nil List.drop_nil List.nil_append List.cons_append List.append_nil Nat.reduceAdd Nat.reduceMul Nat.reduceSub Nat.reduceLeDiff Nat.reduceEqDiff Nat.zero_add
end AF
end
section
namespace AF
open Go
theorem qH{P:Program}{f:Nat}{p:Bool}{vs:List AV}{d:Option Nat}{nx:Nx}{t:List AV}{h:List AObj}{r:AV}(hc:ACalls P f (strips vs) h r h)(hf:flags vs)(hn:nx (qT t d r) h):qk3 P f p vs d nx t h:=
 ⟨hf,r,h,hc,fun _=>rfl,hn⟩
theorem qx{P:Program}{f:Nat}{vs:List AV}{d:Option Nat}{nx:Nx}{t:List AV}{h h':List AObj}{r:AV}(hc:ACalls P f (strips vs) h r h')(hf:flags vs)(hn:nx (qT t d r) h'):qk3 P f false vs d nx t h:=
 ⟨hf,r,h',hc,by simp,hn⟩
theorem qO{P:Program}{f:Nat}{p g:Bool}{vs:List AV}{d:Option Nat}{nx:Nx}{t:List AV}{h:List AObj}{r:AV}(hc:g=true→flags vs∧ACalls P f (strips vs) h r h)(hn:nx (qT t d (.gd g r)) h):qk4 P f p g vs d nx t h:=
 ⟨r,h,fun e=>⟨(hc e).1,(hc e).2,fun _=>rfl⟩,fun _=>rfl,hn⟩
theorem qDB{t:List AV}{h:List AObj}:qah t h []:=trivial
theorem qDC{t:List AV}{h:List AObj}{n:Nat}{l:List RV}(hl:qah t h l):qah t h (.tmp n::l):=⟨trivial,hl⟩
theorem quq:flags []:=trivial
theorem qup{a:AV}{l:List AV}(h:a.flag=true)(t:flags l):flags (a::l):=⟨h,t⟩
theorem qj{P:Program}{f:Nat}{p:Bool}{vs:List AV}{d:Option Nat}{nx:Nx}{t:List AV}{h:List AObj}(r:AV)(hn:nx (qT t d (.gd false r)) h):qk4 P f p false vs d nx t h:=by
 refine⟨r,h,?_,fun _=>rfl,hn⟩;intro e;cases e
theorem qe{a b:Bool}(h:a=b):VLe (.bool a) (.bool b):=h▸VLe.refl _
theorem qB5{a b:List UInt8}(h:a=b):VLe (.str a) (.str b):=h▸VLe.refl _
theorem qwL{n m:Nat}{f g:Nat→List AV}(e:n=m)(h: ∀i,i<m→f i=g i):VLe (.sl n f) (.sl m g):=by
 subst e;intro w σ x hx;have h1:=zQ rfl hx;cases h1 with
 |nilsl=>exact .imm .nilsl
 |sl sz b off cap vals hn hm hb hlt hsz hc h1 hv=>
  refine .imm (.sl sz b off cap vals hn hm hb hlt (fun i hi=> ?_) hc h1 (fun i j c hi hj=> ?_))
  ·rw[←h i hi];exact hsz i hi
  ·rw[←h i hi]at hj;exact hv i j c hi hj
theorem zf{f:Nat→List AV}:VLe .nl (.sl 0 f):=by
 intro w σ x hx;have h1:=zQ rfl hx;cases h1 with
 |nl=>exact .imm .nilsl
theorem qs7{l m:List AV}(h:qbW l m):VLe (.tup l) (.tup m):=by
 intro w σ x hx;obtain⟨vs,rfl,hl,hv⟩:=qf8 hx;refine .tup (by rw[hl,h.length]) (fun i c x hc hx=> ?_);obtain⟨a,ha,hle⟩:=h.get i c hc;exact hle w σ x (hv i a x ha hx)
def qsi(v:AV)(h:List AObj)(m:Option Nat):Prop:=
 match v with
 | .op k ver off=>okL h (.load m) [.op k ver off]
 |_=>False
theorem qjc{n:Nat}{m:Option Nat}{l:List RV}{t:List AV}{h:List AObj}:qah t h (.cell n m::l)=(qsi (zJ n t) h m∧qah t h l):=rfl
theorem qgK{n:Nat}{m:Option Nat}{l:List RV}{t:List AV}{h:List AObj}:jf t h (.cell n m::l)=valL h (.load m) [zJ n t]::jf t h l:=rfl
theorem qld{k ver off:Nat}{h:List AObj}{m:Option Nat}:qsi (.op k ver off) h m=okL h (.load m) [.op k ver off]:=rfl
attribute [go_sem] qjc qgK qld
theorem qgg:zE [] [] []=some true:=rfl
theorem qgf{ks:List AK}{k:IntKind}{a c:Int}{l m:List AV}:zE (.int::ks) (.int k a::l) (.int k c::m)=(zE ks l m).map (fun y=>decide (a=c)&&y):=by
 simp only[zE,kZ,if_true];cases zE ks l m<;>rfl
theorem qe9{ks:List AK}{a c:Bool}{l m:List AV}:zE (.bool::ks) (.bool a::l) (.bool c::m)=(zE ks l m).map (fun y=>(a==c)&&y):=by
 simp only[zE,kZ];cases zE ks l m<;>rfl
theorem qgh{ks:List AK}{a c:List UInt8}{l m:List AV}:zE (.str::ks) (.str a::l) (.str c::m)=(zE ks l m).map (fun y=>decide (a=c)&&y):=by
 simp only[zE,kZ];cases zE ks l m<;>rfl
attribute [go_sem] qgg qgf qe9 qgh Option.map_some Bool.true_bne Bool.false_bne Bool.bne_false
theorem qve{a b:Bool}:(a|| !a&&b)=(a||b):=by cases a<;>simp
theorem qCb{a:Bool}:(a==false)= !a:=by cases a<;>rfl
attribute [go_sem] qve qCb Bool.not_eq_true' Bool.or_eq_true decide_eq_false_iff_not Bool.or_eq_false_iff Bool.not_eq_false' Bool.and_eq_false_imp Bool.true_or Bool.or_true Bool.false_or Bool.true_and Bool.not_true Bool.not_false decide_not Bool.not_not
end AF
end
section
namespace AF
open Go
theorem qaq{rs:List RV}{h0 h' tl:List AObj}{K:AV→List AObj→Prop}{t:List AV}{r:AV}(hok:qah t (h'++tl) rs)(hl:h'.length=h0.length)(hlow: ∀o∈h',o∈h0∨lowO h0.length o)(hK:K r h')
  (hv:VLe (frz (fun k=>decide (h0.length≤k)) (h'++tl) 8 (qgF (jf t (h'++tl) rs))) r):fnQ rs h0 K .ret t (h'++tl):=
 ⟨r,h',hK,hok,⟨tl,rfl⟩,hl,hlow,VOut.of 8 hv⟩
theorem zO{rs:List RV}{h0 h' tl:List AObj}{K:AV→List AObj→Prop}{t:List AV}{r:AV}(hok:qah t (h'++tl) rs)(hl:h'.length=h0.length)(hlow: ∀o∈h',o∈h0∨lowO h0.length o)(hK:K r h')
  (hv:VLe (frz (fun k=>decide (h0.length≤k)) (h'++tl) 8 (qgF (jf t (h'++tl) rs))) r):fnQ rs h0 K .normal t (h'++tl):=
 ⟨r,h',hK,hok,⟨tl,rfl⟩,hl,hlow,VOut.of 8 hv⟩
section
variable {k v : Nat} {h l : List AObj} {o o' : AObj} {ty : TypeId} {cs : List AV}
theorem zz(hk:k<h.length):qr k (h++l)=qr k h:=by unfold qr;rw[List.getElem?_append_left hk]
theorem zC(hk:k<h.length):qn k (h++l) o=qn k h o++l:=by unfold qn;rw[List.set_append_left _ _ hk]
theorem qL:(qn k h o).length=h.length:=by unfold qn;simp
theorem jp(hk:k<h.length):qr k (qn k h o)=some o:=by unfold qr qn;rw[List.getElem?_set_self hk]
theorem qai:qn k (qn k h o) o'=qn k h o':=by unfold qn;rw[List.set_set]
theorem qP(e:qr k h=some (.mem v ty cs)):cellsOf h k v=some cs:=by unfold cellsOf;rw[e];simp
theorem zG(e:qr k h=some o):k<h.length:=by unfold qr at e;exact (List.getElem?_eq_some_iff.1 e).1
theorem jk{x:AObj}(hx:x∈qn k h o):x∈h∨x=o:=by
 unfold qn at hx;exact List.mem_or_eq_of_mem_set hx
end
section
variable {k v w n : Nat} {h l : List AObj} {o o' : AObj} {ty : TypeId} {cs : List AV}
theorem qcL(hk:k<h.length):qr k (qn k h o++l)=some o:=by rw[zz (by rw[qL];exact hk),jp hk]
theorem qam(hk:k<h.length):cellsOf (qn k h (.mem w ty cs)++l) k v=if w=v then some cs else none:=by unfold cellsOf;rw[qcL hk]
theorem qeH(hk:k<h.length):qn k (qn k h o++l) o'=qn k h o'++l:=by rw[zC (by rw[qL];exact hk),qai]
theorem getO_seta:qr (h.length+n) (qn k h o++l)=l[n]? :=by
 have:= @getO_app (qn k h o) l n
 rwa [qL]at this
theorem getO_seta0:qr h.length (qn k h o++l)=l[0]? :=by
 have:= @getO_app0 (qn k h o) l
 rwa [qL]at this
theorem setO_seta:qn (h.length+n) (qn k h o++l) o'=qn k h o++l.set n o':=by
 have:= @setO_app (qn k h o) l n o'
 rwa [qL]at this
theorem setO_seta0:qn h.length (qn k h o++l) o'=qn k h o++l.set 0 o':=by
 have:= @setO_app0 (qn k h o) l o'
 rwa [qL]at this
theorem cellsOf_seta:cellsOf (qn k h o++l) (h.length+n) v=cellsOf l n v:=by unfold cellsOf;rw[getO_seta];rfl
theorem cellsOf_seta0:cellsOf (qn k h o++l) h.length v=cellsOf l 0 v:=by unfold cellsOf;rw[getO_seta0];rfl
theorem site_seta:qJ (qn k h o++l) (h.length+n)=qJ l n:=by unfold qJ;rw[getO_seta];rfl
theorem site_seta0:qJ (qn k h o++l) h.length=qJ l 0:=by unfold qJ;rw[getO_seta0];rfl
end
attribute [go_sem] getO_seta getO_seta0 setO_seta setO_seta0 cellsOf_seta cellsOf_seta0 site_seta site_seta0
theorem jK{k:Nat}{h:List AObj}{o:AObj}(e:qr k h=some o):qn k h o=h:=by
 unfold qr at e;unfold qn;obtain⟨h1,h2⟩:=List.getElem?_eq_some_iff.1 e;rw[←h2];exact List.set_getElem_self h1
theorem qrm:qgF []= .tup []:=rfl
attribute [go_sem] qrm
end AF
end
section
namespace AF
open Go
def qEB(c:Option (List AV))(g:AV→AV)(off:Nat):AV:=
 match c with
 |some cs=> .ip ((cs.drop off).map g)
 |none=> .undef
def qhW(o:Option AObj)(ver sz off len:Nat)(g:AV→AV):AV:=
 match o with
 |some (.mem ve _ cs)=>if ve=ver∧off+len*sz≤cs.length then .sl len (fun i=>((cs.drop (off+i*sz)).take sz).map g) else .undef
 |some (.emp ve)=>if ve=ver then .nl else .undef
 |_=> .undef
section
variable {fz : Nat → Bool} {h : List AObj} {n k ver sz off len : Nat}
theorem rei_op:rei fz h (n+1) (.op k ver off)=if fz k=true then qEB (cellsOf h k ver) (rei fz h n) off else .undef:=rfl
theorem rei_osl:rei fz h (n+1) (.osl k ver sz off len)=if fz k=true then qhW (qr k h) ver sz off len (rei fz h n) else .undef:=rfl
theorem frz_op:frz fz h (n+1) (.op k ver off)=if fz k=true then rei fz h (n+1) (.op k ver off) else .op k ver off:=rfl
theorem frz_osl:frz fz h (n+1) (.osl k ver sz off len)=if fz k=true then rei fz h (n+1) (.osl k ver sz off len) else .osl k ver sz off len:=rfl
theorem ipOf_some{cs:List AV}{g:AV→AV}:qEB (some cs) g off= .ip ((cs.drop off).map g):=rfl
theorem slOf_mem{cs:List AV}{g:AV→AV}{ve:Nat}{ty:TypeId}:qhW (some (.mem ve ty cs)) ver sz off len g=if ve=ver∧off+len*sz≤cs.length then .sl len (fun i=>((cs.drop (off+i*sz)).take sz).map g) else .undef:=rfl
theorem slOf_emp{g:AV→AV}{ve:Nat}:qhW (some (.emp ve)) ver sz off len g=if ve=ver then .nl else .undef:=rfl
theorem rei_int{k:IntKind}{a:Int}:rei fz h (n+1) (.int k a)= .int k a:=rfl
theorem rei_bool{a:Bool}:rei fz h (n+1) (.bool a)= .bool a:=rfl
theorem rei_str{a:List UInt8}:rei fz h (n+1) (.str a)= .str a:=rfl
theorem rei_sl{m:Nat}{f:Nat→List AV}:rei fz h (n+1) (.sl m f)= .sl m f:=rfl
theorem rei_nl:rei fz h (n+1) .nl= .nl:=rfl
theorem rei_ip{cs:List AV}:rei fz h (n+1) (.ip cs)= .ip cs:=rfl
theorem rei_agg{cs:List AV}:rei fz h (n+1) (.agg cs)= .agg (cs.map (rei fz h n)):=rfl
theorem rei_tup{cs:List AV}:rei fz h (n+1) (.tup cs)= .tup (cs.map (rei fz h n)):=rfl
theorem rei_fn{f:Fn}{a b:List AV}:rei fz h (n+1) (.fn f a b)= .fn f (a.map (rei fz h n)) (b.map (rei fz h n)):=rfl
theorem rei_nilp:rei fz h (n+1) .nilp= .nilp:=rfl
theorem rei_undef:rei fz h (n+1) .undef= .undef:=rfl
end
attribute [go_sem] rei_op rei_osl frz_op frz_osl ipOf_some slOf_mem slOf_emp rei_int rei_bool rei_str rei_sl rei_nl rei_ip rei_agg rei_tup rei_fn rei_nilp rei_undef Nat.le_add_right Nat.le_refl Nat.mul_one Nat.one_mul
theorem qr9{P:Program}{b:Nat}{r:List RO}{K:Nx}{t:List AV}{h:List AObj}{d:Option Nat}{xs:List X}{j:Nat}{u:Bool}:opsA P b (⟨d,some (j,u),.callv,xs⟩::r) K t h=
  (zH (zJ j t)=true∧(qQ (zJ j t) u=true→flags (evs t xs)∧qbn P (strips (evs t xs)) d (opsA P b r K) t h)∧(qQ (zJ j t) u=false→opsA P b r K (qT t d .undef) h)):=by simp only[opsA,stepO,kM,R.kd]
theorem qk8{P:Program}{k:Nat}{args:List AV}{d:Option Nat}{nx:Nx}{t:List AV}{h:List AObj}:qbn P (.yld k::args) d nx t h=((∃s ts L,qr k h=some (.lp s ts L))∧kk P k args h fun v h'=>nx (qT t d v) h'):=(rfl)
theorem qdB:valP (.un .not) [.undef]= .bool true:=rfl
theorem qm9{g q:Bool}:kh (.bool false) (.gd g .undef) (.bool q)= .bool q:=rfl
attribute [go_sem] qr9 qk8 qdB qm9 true_implies false_implies Bool.false_eq_true Bool.true_eq_false
end AF
end
section
namespace AF
open Go
theorem qmU{P:Program}{b:Nat}{l:List RO}: ∀ {nx nx':Nx} {t:List AV} {h:List AObj},(∀t h,nx t h→nx' t h)→opsA P b l nx t h→opsA P b l nx' t h:=by
 induction l with
 |nil=>intro nx nx' t h hn H;exact hn _ _ H
 |cons o l ih=>intro nx nx' t h hn H;exact ku (fun t h H=>ih hn H) H
theorem qeC{h0:List AObj}{t:List AV}{Q Q':Ex→Nx}{h:List AObj}(hq: ∀e t h,Q e t h→Q' e t h)(H:qeB h0 t Q h):qeB h0 t Q' h:=by
 obtain⟨hh,s,ts,L,h1,h2,h3,h4⟩:=H;refine⟨hh,s,ts,L,h1,h2,h3,?_⟩;cases s with
 |ready=>exact hq _ _ _ h4
 |ret=>exact hq _ _ _ h4
 |exit id=>exact hq _ _ _ h4
 |busy=>exact h4
theorem qaR{P:Program}{b:Nat}{x:C}: ∀ {Q Q':Ex→Nx} {t:List AV} {h:List AObj},(∀e t h,Q e t h→Q' e t h)→qX P b x Q t h→qX P b x Q' t h:=by
 induction x with
 |skip=>intro Q Q' t h hq H;exact hq _ _ _ H
 |ops l=>intro Q Q' t h hq H;exact qmU (fun t h H=>hq _ _ _ H) H
 |seq x y ihx ihy=>
  intro Q Q' t h hq H;refine ihx (fun e t h H=> ?_) H;cases e with
  |normal=>exact ihy hq H
  |exit id=>exact hq _ _ _ H
  |ret=>exact hq _ _ _ H
 |cond c x y ihx ihy=>
  intro Q Q' t h hq H;simp only[qX,qgp]at*;split at H
  ·exact⟨fun e=>ihx hq (H.1 e),fun e=>ihy hq (H.2 e)⟩
  ·exact⟨ihx hq H.1,ihy hq H.2⟩
  ·exact H.elim
 |block id x ih=>
  intro Q Q' t h hq H;refine ih (fun e t h H=> ?_) H;cases e with
  |normal=>exact hq _ _ _ H
  |ret=>exact hq _ _ _ H
  |exit i=>
   simp only[Ex.inBlock]at*;split
   ·rename_i e;rw[if_pos e]at H;exact hq _ _ _ H
   ·rename_i e;rw[if_neg e]at H;exact hq _ _ _ H
 |loop x ih=>
  intro Q Q' t h hq H;obtain⟨I,h1,h2⟩:=H;refine⟨I,h1,fun n t' h' hi=>ih (fun e t h H=> ?_) (h2 n t' h' hi)⟩;cases e with
  |normal=>exact H
  |exit id=>exact hq _ _ _ H
  |ret=>exact hq _ _ _ H
 |range u ps x y ihx ihy=>
  intro Q Q' t h hq H L hy
  have:=H L hy
  split at this
  ·exact this.le (qbW.refl _) (fun v h' hr=>⟨v,VLe.refl _,qeC hq hr⟩)
  ·exact this
 |exit id=>intro Q Q' t h hq H;exact hq _ _ _ H
 |ret=>intro Q Q' t h hq H;exact hq _ _ _ H
 |wk=>
  intro Q Q' t h hq H;obtain⟨t',h',h1,h2⟩:=H;exact⟨t',h',h1,hq _ _ _ h2⟩
 |draw d=>
  intro Q Q' t h hq H;obtain⟨M,h1,h2⟩:=H;exact⟨M,h1,fun t' h' hm=>hq _ _ _ (h2 t' h' hm)⟩
 |bad=>intro Q Q' t h hq H;exact H
def qvV(o:Option AObj)(ver sz off n:Nat):Option (Nat×List AV):=
 match o with
 |some (.mem v _ cs)=>if v=ver∧off+n*sz≤cs.length then some (n,(cs.drop off).take (n*sz)) else none
 |some (.emp v)=>if v=ver∧n=0 then some (0,[]) else none
 |_=>none
theorem qdy{h:List AObj}{k ver sz off n:Nat}:qk h (.osl k ver sz off n)=qvV (qr k h) ver sz off n:=rfl
theorem qnQ{v ver sz off n:Nat}{ty:TypeId}{cs:List AV}:qvV (some (.mem v ty cs)) ver sz off n=if v=ver∧off+n*sz≤cs.length then some (n,(cs.drop off).take (n*sz)) else none:=rfl
theorem qnP{v ver sz off n:Nat}:qvV (some (.emp v)) ver sz off n=if v=ver∧n=0 then some (0,[]) else none:=rfl
theorem qin{k v z p n k' v' z' p' n':Nat}:qch (.osl k v z p n) (.osl k' v' z' p' n')=(k !=k'):=rfl
theorem qj5{k v z p n m:Nat}{f:Nat→List AV}:qch (.osl k v z p n) (.sl m f)=true:=rfl
theorem qj4{k v z p n:Nat}:qch (.osl k v z p n) .nl=true:=rfl
attribute [go_sem] Int.toNat_zero decide_true decide_false beq_self_eq_true
attribute [go_sem] qdy qnQ qnP qin qj5 qj4
theorem qg7{g:List AObj}{z:Nat}{i:AV}:valL g (.idxA z) [.nl,i]= .undef:=rfl
theorem qdo{g:List AObj}{n:Option Nat}:valL g (.load n) [.undef]= .undef:=rfl
theorem qdz{g:List AObj}{n:Nat}:valL g (.fldA n) [.undef]= .undef:=rfl
theorem qip{op:BinOp}{y:AV}:qaz op .undef y= .undef:=rfl
theorem qnf{p g:Bool}:kh (.bool true) (.bool p) (.gd g .undef)= .bool p:=rfl
theorem qna{p g:Bool}:kh (.bool false) (.gd g .undef) (.bool p)= .bool p:=rfl
attribute [go_sem] qg7 qdo qdz qip qnf qna
theorem qtD{P:Program}{b:Nat}{u:X}{ps:List Nat}{x y:C}{Q:Ex→Nx}{t:List AV}{h:List AObj}:qX P b (.range u ps x y) Q t h=qfM P (ev t u) ps (qX P b x) (qX P b y) Q t h:=(rfl)
attribute [go_sem] qtD
end AF
end
section
namespace AF
open Go
theorem HR.move{w:World}{σ:List OB}{h:List AObj}(H:HR w σ h){k j vj:Nat}{ty:TypeId}{cs:List AV}(hj:qr j h=some (.mem vj ty cs))(hk:qJ h k=true)(hne:k≠j):
  ∃σ',HR w σ' (qn k (qn j h (.emp (vj+1))) (.mem (qo (qr k h)+1) ty cs))∧Ext w σ w σ'∧
   ∀sz off len x,VR w σ (.osl j vj sz off len) x→VR w σ' (.osl k (qo (qr k h)+1) sz off len) x:=by
 obtain⟨ok,hok,hver⟩:=z7 H hk;have hjl:j<σ.length:=by rw[H.len];exact zG hj
 have hkl:k<σ.length:=(List.getElem?_eq_some_iff.1 hok).1;obtain⟨oj,hoj⟩: ∃oj,σ[j]? =some oj:=⟨_,List.getElem?_eq_getElem hjl⟩
 have hobj:=H.obj j _ oj hj hoj;obtain⟨m1,m2,b,arr,m3,m4,m5,m6,m7,m8⟩:=hobj;rw[hver]
 let oj':OB:= { oj with blk:=none,ver:=oj.ver+1 }
 let ok':OB:= { oj with ver:=ok.ver+1 }
 let σ':=(σ.set j oj').set k ok'
 have gk:σ'[k]? =some ok':=by simp[σ',hkl]
 have gj:σ'[j]? =some oj':=by simp only[σ'];rw[List.getElem?_set_ne hne];simp[hjl]
 have go: ∀i,i≠k→i≠j→σ'[i]? =σ[i]? :=by
  intro i h1 h2;simp only[σ'];rw[List.getElem?_set_ne (fun e=>h1 e.symm),List.getElem?_set_ne (fun e=>h2 e.symm)]
 have blk: ∀(i:Nat) (o:OB) (b:Nat),σ'[i]? =some o→o.blk=some b→(i=k∧oj.blk=some b)∨(i≠k∧i≠j∧σ[i]? =some o):=by
  intro i o b h1 h2
  by_cases e1:i=k
  ·subst e1;rw[gk]at h1;cases h1;exact .inl ⟨rfl,h2⟩
  ·by_cases e2:i=j
   ·subst e2;rw[gj]at h1;cases h1;cases h2
   ·rw[go i e1 e2]at h1;exact .inr ⟨e1,e2,h1⟩
 have hext:Ext w σ w σ':=by
  refine⟨rfl,rfl,rfl,Nat.le_refl _,fun _ _ _=>rfl,?_,?_,fun b r h=>⟨r,h⟩⟩
  ·rintro b ⟨i,o,h1,h2⟩;rcases blk i o b h1 h2 with⟨_,h3⟩|⟨_,_,h3⟩
   ·exact .inl ⟨j,oj,hoj,h3⟩
   ·exact .inl ⟨i,o,h3,h2⟩
  ·intro i o h1
   by_cases e1:i=k
   ·subst e1;rw[hok]at h1;cases h1;exact⟨ok',gk,by simp[ok'],by simp[ok']⟩
   ·by_cases e2:i=j
    ·subst e2;rw[hoj]at h1;cases h1;exact⟨oj',gj,by simp[oj'],by simp[oj']⟩
    ·exact⟨o,by rw[go i e1 e2];exact h1,Nat.le_refl _,fun _=>rfl⟩
 refine⟨σ',⟨by simp[σ',qn,H.len],?_,?_,?_⟩,hext,?_⟩
 ·intro i i' o o' b h1 h2 h3 h4;rcases blk i o b h1 h3 with⟨rfl,g1⟩|⟨g0,g1,g2⟩<;>rcases blk i' o' b h2 h4 with⟨rfl,g1'⟩|⟨g0',g1',g2'⟩
  ·rfl
  ·exact absurd (H.inj i' j o' oj b g2' hoj h4 g1) g1'
  ·exact absurd (H.inj i j o oj b g2 hoj h3 g1') g1
  ·exact H.inj i i' o o' b g2 g2' h3 h4
 ·intro i o b h1 h2;rcases blk i o b h1 h2 with⟨_,g1⟩|⟨_,_,g2⟩
  ·exact H.lt j oj b hoj g1
  ·exact H.lt i o b g2 h2
 ·intro i a o ha ho
  by_cases e1:i=k
  ·subst e1;have hkh:i<(qn j h (.emp (vj+1))).length:=by rw[qL,←H.len];exact hkl
   have:=jp (o:= .mem (ok.ver+1) ty cs) hkh
   unfold qr at this;rw[this]at ha;cases ha;rw[gk]at ho;cases ho;exact⟨rfl,m2,b,arr,m3,m4,m5,m6,m7,fun i c x hc hx=>(m8 i c x hc hx).ext hext⟩
  ·by_cases e2:i=j
   ·subst e2;have hjh:i<h.length:=by rw[←H.len];exact hjl
    simp only[qn]at ha;rw[List.getElem?_set_ne hne,List.getElem?_set_self hjh]at ha;cases ha;rw[gj]at ho;cases ho;exact⟨by simp[oj',m1],rfl⟩
   ·rw[go i e1 e2]at ho;simp only[qn]at ha;rw[List.getElem?_set_ne (fun e=>e1 e.symm),List.getElem?_set_ne (fun e=>e2 e.symm)]at ha;exact (H.obj i a o ha ho).ext hext (fun _ _=>rfl)
 ·intro sz off len x hx;cases hx with
  |imm h=>cases h
  |osl o ho hs hle hh=>
   rw[hoj]at ho;cases ho;refine .osl ok' gk hs (Nat.le_refl _) (fun _=> ?_);exact hh m1
def fnM(rs:List RV)(h0:List AObj)(k:Nat)(K:AV→List AObj→Prop):Ex→Nx
 | .exit _,_,_=>False
 |_,t,hh=> ∃(j vj sz off len:Nat) (ty:TypeId) (cs:List AV) (tl:List AObj),qah t hh rs∧qgF (jf t hh rs)= .osl j vj sz off len∧hh=h0++tl∧h0.length≤j∧qr j hh=some (.mem vj ty cs)∧
   (∀c∈cs,qV h0.length c=true)∧qJ h0 k=true∧K (.osl k (qo (qr k h0)+1) sz off len) (qn k h0 (.mem (qo (qr k h0)+1) ty cs))
theorem qil{P:Program}{f nt ns:Nat}{rs:List RV}{c:C}(hf:qM P f nt ns rs c){args:List AV}{h:List AObj}{K:AV→List AObj→Prop}(k:Nat)(ha:args.length≤nt)
  (hw:qX P h.length c (fnM rs h k K) (args++List.replicate (nt-args.length) .undef) (h++List.replicate ns (.emp 0))):jc P f args h K:=by
 obtain⟨fn,body,js,imp,wks,h1,h2,h3,rfl,rfl,h6,h7⟩:=hf;refine⟨by simp[okF,h1,h2,h3],fun w σ xs H hv=> ?_⟩;refine callsIn_of_wp_marks h1 h2 trivial ?_;obtain⟨p1,p2⟩:=H.pushN js.length;have hsr:SR w.heap.size w (σ++List.replicate js.length ⟨none,0,0,0⟩) (args++List.replicate (fn.ntmps-args.length) .undef) (h++List.replicate js.length (.emp 0))
   { tmps:=xs.toArray++Array.replicate (fn.ntmps-xs.toArray.size) Go.undef,defers:= [] }:=by
  refine⟨p1,by simp[hv.1],fun i c x hc hx=> ?_,⟨[],rfl,.nil,Nat.le_refl _,by simp⟩⟩;rw[List.getElem?_append]at hc;simp only[Array.getElem?_append]at hx;have hz:xs.toArray.size=args.length:=by simp[hv.1]
  split at hc
  ·rename_i hi;rw[if_pos (by omega)]at hx;exact (hv.2 i c x hc (by simpa using hx)).ext p2
  ·rw[List.getElem?_replicate]at hc;split at hc
   ·cases hc;exact .imm .undef
   ·cases hc
 refine wpIn_mono (qhq (b:=h.length) h7 w.heap.size none _ w _ _ _ _ hw (by simp) hsr) ?_;rintro e a' w' ⟨z,σ',t',hh,he,g1,g2,g3⟩;have key:(∃(j vj sz off len:Nat) (ty:TypeId) (cs:List AV) (tl:List AObj),qah t' hh rs∧qgF (jf t' hh rs)= .osl j vj sz off len∧hh=h++tl∧h.length≤j∧qr j hh=some (.mem vj ty cs)∧
   (∀c∈cs,qV h.length c=true)∧qJ h k=true∧K (.osl k (qo (qr k h)+1) sz off len) (qn k h (.mem (qo (qr k h)+1) ty cs)))→
   LeavesInM Fence.wide 0 P fn a'.tmps (fun e w'=> ∃v σ' r h',K r h'∧e= .returned v∧HR w' σ' h'∧VR w' σ' r v∧Ext w σ w' σ') a'.defers .returning w':=by
  rintro⟨j,vj,sz,off,len,ty,cs,tl,k1,k2,rfl,k3,k4,k5,k6,hK⟩;obtain⟨ms,d1,d2,d3,d4⟩:=g1.df;rw[d1];refine qcp (N:=w.heap.size) ms w' d2 (fun r hr=>⟨(d4 r hr).1,(d4 r hr).2.2.2⟩) (fun w1 e1=> ?_);have H1:=g1.hr.dt e1;obtain⟨v,v1,v2⟩:=qdZ (P:=P) H1 g1.sz (fun i c x hc hx=>(g1.tm i c x hc hx).dt e1) h6 k1;rw[k2]at v2;have ee:Ext w σ w1 σ':=(p2.trans g2).dt e1;have hkl:k<h.length:=by
   have:=k6
   unfold qJ at this;split at this
   ·rename_i hx;exact zG hx
   ·rename_i hx;exact zG hx
   ·rename_i hx;exact zG hx
   ·cases this
  have hkt:qJ (h++tl) k=true:=by unfold qJ at k6 ⊢;rw[zz hkl];exact k6
  obtain⟨σ2,q1,q2,q3⟩:=H1.move k4 hkt (by omega);have q3':=q3 _ _ _ _ v2;rw[zz hkl]at q1 q3';have eh:qn k (qn j (h++tl) (.emp (vj+1))) (.mem (qo (qr k h)+1) ty cs)=qn k h (.mem (qo (qr k h)+1) ty cs)++qn (j-h.length) tl (.emp (vj+1)):=by
   unfold qn;rw[List.set_append_right _ _ k3,List.set_append_left _ _ hkl]
  rw[eh]at q1;obtain⟨m1,m2⟩:=HR.trunc H (ee.trans q2) q1 qL (fun o ho=>by
   rcases jk ho with h1|rfl
   ·exact .inl h1
   ·exact .inr k5)
  refine⟨v,v1,v,_,_,_,hK,rfl,m1,?_,m2⟩;cases q3' with
  |imm h=>cases h
  |osl o ho hs hle hh=>
   refine .osl o ?_ hs hle hh;rw[List.getElem?_take,if_pos hkl];exact ho
 cases e with
 |normal=>cases he;exact key g3
 |ret=>cases he;exact key g3
 |exit id=>cases he;exact g3.elim
 |goto l=>cases he
 |panic c=>cases he
 |outgrown=>cases he
theorem qcY{P:Program}{f nt ns:Nat}{rs:List RV}{c:C}(hf:qM P f nt ns rs c){args:List AV}{h:List AObj}{r:AV}{h':List AObj}(k:Nat)(ha:args.length≤nt)
  (hw:qX P h.length c (fnM rs h k fun r1 h1=>r1=r∧h1=h') (args++List.replicate (nt-args.length) .undef) (h++List.replicate ns (.emp 0))):ACalls P f args h r h':=(qil hf k ha hw).calls
end AF
end
section
namespace AF
open Go
section
variable {P : Program} {b : Nat} {r : List RO} {K : Nx} {t : List AV} {h : List AObj} {d : Option Nat} {xs : List X} {j : Nat} {u : Bool}
theorem wg_bslc{i z n:Nat}{ty:TypeId}{zs:List AV}{ps:List (Nat×Nat)}:opsA P b (⟨d,some (j,u),.bslc i z n ty zs ps,xs⟩::r) K t h=
  (zH (zJ j t)=true∧(qQ (zJ j t) u=true→flags (evs t xs)∧effE b h (.bslc i z n ty zs ps) (strips (evs t xs)) t d (opsA P b r K))∧(qQ (zJ j t) u=false→opsA P b r K (qT t d .undef) h)):=by simp only[opsA,stepO,kM,R.kd]
end
attribute [go_sem] wg_bslc
end AF
end
section
namespace AF
open Go
def qv(o:Option AObj)(ver:Nat):Option (List AV):=
 match o with
 |some (.mem v _ cs)=>if v=ver then some cs else none
 |_=>none
def qG(o:Option AObj)(ver:Nat):Bool:=
 match o with
 |some (.mem v _ _)=>v==ver
 |some (.emp v)=>v==ver
 |_=>false
section
variable {h l : List AObj} {i j k ver v : Nat} {o o' o'' : AObj} {ty : TypeId} {cs : List AV}
theorem zR:cellsOf h k ver=qv (qr k h) ver:=rfl
theorem jq:qF h k ver=qG (qr k h) ver:=rfl
theorem ql:qv (some (.mem v ty cs)) ver=if v=ver then some cs else none:=rfl
theorem qaW:qG (some (.mem v ty cs)) ver=(v==ver):=rfl
theorem qdS:qG (some (.emp v)) ver=(v==ver):=rfl
theorem qS(hne:k≠j):qr k (qn j h o)=qr k h:=by unfold qr qn;rw[List.getElem?_set_ne (fun e=>hne e.symm)]
theorem qeq(hk:k<h.length):qr k (qn j h o++l)=qr k (qn j h o):=zz (by rw[qL];exact hk)
theorem qer(hk:k<h.length):qr k (qn i (qn j h o) o'++l)=qr k (qn i (qn j h o) o'):=zz (by rw[qL,qL];exact hk)
theorem qeF(hk:k<h.length):qn k (qn j h o++l) o'=qn k (qn j h o) o'++l:=zC (by rw[qL];exact hk)
theorem qeG(hk:k<h.length):qn k (qn i (qn j h o) o'++l) o''=qn k (qn i (qn j h o) o') o''++l:=zC (by rw[qL,qL];exact hk)
theorem kI(hne:i≠j):qn i (qn j h o) o'=qn j (qn i h o') o:=by unfold qn;rw[List.set_comm _ _ (fun e=>hne e.symm)]
end
end AF
end
section
namespace AF
open Go
theorem qbB{α β:Type}{f:α→Option β}: ∀ {l:List α} {ys:List β},l.mapM f=some ys→ys.length=l.length∧ ∀(i:Nat) x y,l[i]? =some x→ys[i]? =some y→f x=some y:=by
 intro l
 induction l with
 |nil=>intro ys h;simp at h;subst h;simp
 |cons a l ih=>
  intro ys h;rw[List.mapM_cons]at h;cases ha:f a with
  |none=>simp[ha]at h
  |some b=>
   cases hl:l.mapM f with
   |none=>simp[ha,hl]at h
   |some zs=>
    simp[ha,hl]at h;subst h;obtain⟨h1,h2⟩:=ih hl;refine⟨by simp[h1],fun i x y hx hy=> ?_⟩;cases i with
    |zero=>simp at hx hy;subst hx hy;exact ha
    |succ i=>exact h2 i x y (by simpa using hx) (by simpa using hy)
section
variable {H : Type} {enc : TypeId × Value → H} {P : Program} {w : World} {sp : Nat → Bool} {held : Bool} {ow : Nat → Prop}
end
theorem HR.nil(w:World):HR w [] []:=⟨rfl,by simp,by simp,by simp⟩
theorem qmZ(b:Nat): ¬own [] b:=fun ⟨k,o,h,_⟩=>by simp at h
theorem VRs.nil'{w:World}{σ:List OB}:VRs w σ [] []:=⟨rfl,by simp⟩
theorem VRs.cons'{w:World}{σ:List OB}{a:AV}{v:Value}{as:List AV}{vs:List Value}(h:VR w σ a v)(h':VRs w σ as vs):VRs w σ (a::as) (v::vs):=by
 refine⟨by simp[h'.1],fun i c x hc hx=> ?_⟩;cases i with
 |zero=>simp at hc hx;subst hc hx;exact h
 |succ i=>exact h'.2 i c x (by simpa using hc) (by simpa using hx)
end AF
end
section
namespace AF
open Go Go.ChangeShapes Go.WideShapes Go.ChangeAt Go.RowKit
section
variable {H : Type} {enc : TypeId × Value → H} {P : Program} {W W' : World}
theorem qf4(hl:laidOutB P=true)(hb:Below W.heap.size W W'): ∀ {ts:List TypeId} {vs:List Value} {ds:List (DataW H)} {ps:List MemPlace},(∀t∈ts,P.readableRec t=true∧t<P.types.size)→
  (∀x∈ps,x.block<W.heap.size)→DataW.TrodAll enc P W 0 (fun _=>true) true ts vs ds ps→DataW.TrodAll enc P W' 0 (fun b=>decide (b<W.heap.size)) true ts vs ds ps:=by
 intro ts
 induction ts with
 |nil=>
  intro vs ds ps _ _ h
  match vs,ds,h with
  | [],[],h=>exact h
 |cons t ts ih=>
  intro vs ds ps ht hp h
  match vs,ds,h with
  |v::vs,d::ds,⟨p,q,h1,h2,e⟩=>
   subst e;refine⟨p,q,?_,?_,rfl⟩
   ·exact Below.trod hl (ht t (by simp)).1 (ht t (by simp)).2 h1 hb (fun x hx=>hp x (by simp[hx]))
   ·exact ih (fun u hu=>ht u (by simp[hu])) (fun x hx=>hp x (by simp[hx])) h2
theorem qqz{f:Func}{s:ChangeSpec}{args:Array Value}{ds:List (DataW H)}{before:List MemPlace}{tb:TypeId}(hl:laidOutB P=true)(hv:s.vars= [])(hfn:s.fn H ds= { results:= [.lit (.bool true)],args:=ds })
  (hrt:f.resultTypes= #[tb]) (htb:P.underlying tb=some .bool) (hro: ∀t∈f.params.toList,P.readableRec t=true∧t<P.types.size)
  (hW:DataW.Whole enc P f.params.toList s.vars false W args.toList ds [] before) (hA:DataW.TrodAll enc P W 0 (fun _=>true) true f.params.toList args.toList ds before) (hb:Below W.heap.size W W'):
  s.post enc P f false true false false W args (.bool true) W':=by
 have hlt: ∀x∈before,x.block<W.heap.size:=fun x hx=>hW.lt x hx
 refine⟨ds,[],before,[],before,[],hW,?_,?_,?_,?_,fun h=>by cases h⟩
 ·rw[List.append_nil,hfn,hrt];exact⟨[],[],shut_bool htb true,rfl,rfl⟩
 ·rw[List.append_nil,hfn];exact qf4 hl hb hro hlt hA
 ·rw[List.append_nil,hfn,hv];rfl
 ·exact World.keptBut_mono (fun x hx=>⟨hx,.inr (.inl hx)⟩) (hb.frame (· ∈before))
end
end AF
end
section
namespace AF
open Go
def qrS(P:Program):Nat→List Field→Option Nat
 |n,[]=>some n
 |n,f::r=>if f.offset=n then qrS P (n+P.cellsOf f.type) r else none
def qbE(P:Program):Nat→TypeId→Bool
 |0,_=>false
 |d+1,t=>match P.underlying t with
  |some .bool=>decide (P.cellsOf t=1)
  |some (.int _)=>decide (P.cellsOf t=1)
  |some .string=>decide (P.cellsOf t=1)
  |some (.slice e)=>decide (P.cellsOf t=1)&&(decide (0<P.cellsOf e)&&qbE P d e)
  |some (.struct fs)=>decide (qrS P 0 fs.toList=some (P.cellsOf t))&&fs.toList.all fun f=>qbE P d f.type
  |_=>false
def jg(P:Program):Nat→TypeId→List AV→Prop
 |0,_,_=>False
 |d+1,t,as=>match P.underlying t with
  |some .bool=> ∃b,as= [.bool b]
  |some (.int k)=> ∃n,as= [.int k n]∧(Lit.int k n).wf=true
  |some .string=> ∃s:List UInt8,as= [.str s]∧s.length≤maxLen
  |some (.slice e)=> ∃(n:Nat) (f:Nat→List AV),as= [.sl n f]∧n≤maxLen∧ ∀i,i<n→jg P d e (f i)
  |some (.struct fs)=>as.length=P.cellsOf t∧ ∀f∈fs.toList,jg P d f.type ((as.drop f.offset).take (P.cellsOf f.type))
  |_=>False
section
variable {H : Type} {enc : TypeId × Value → H} {P : Program} {w : World} {held : Bool} {ow : Nat → Prop}
structure qaB (w:World) (ow:Nat→Prop) (as:List AV) (cs:List Value):Prop where
 len:cs.length=as.length
 one: ∀(i:Nat) v,cs[i]? =some v→v.oneCell'=true
 vi: ∀(i:Nat) c v,as[i]? =some c→cs[i]? =some v→VI w ow c v
theorem qaB.single{a:AV}{v:Value}(h1:v.oneCell'=true)(h2:VI w ow a v):qaB w ow [a] [v]:=by
 refine⟨rfl,fun i x hx=> ?_,fun i c x hc hx=> ?_⟩
 ·cases i<;>simp at hx;subst hx;exact h1
 ·cases i<;>simp at hx hc;subst hx hc;exact h2
theorem qaB.append{as bs:List AV}{cs ds:List Value}(h:qaB w ow as cs)(h':qaB w ow bs ds):qaB w ow (as++bs) (cs++ds):=by
 have hl:=h.len;refine⟨by simp[hl,h'.len],fun i v hv=> ?_,fun i c v hc hv=> ?_⟩
 ·rw[List.getElem?_append]at hv;split at hv
  ·exact h.one i v hv
  ·exact h'.one _ v hv
 ·rw[List.getElem?_append]at hc hv;split at hv
  ·rename_i hi;rw[if_pos (by omega)]at hc;exact h.vi i c v hc hv
  ·rename_i hi;rw[if_neg (by omega),←hl]at hc;exact h'.vi _ c v hc hv
theorem qgs{d fuel:Nat}(ih: ∀(t:TypeId) (cs:List Value) (dd:DataW H) (ps:List MemPlace),qbE P d t=true→DataW.trod enc P w 0 (fun _=>true) held fuel t cs=some (dd,ps)→ ∃as,jg P d t as∧as.length=P.cellsOf t∧qaB w ow as cs){cs:List Value}:
  ∀(fs:List Field) (n m:Nat) (xs:List (DataW H×List MemPlace)),qrS P n fs=some m→(∀f∈fs,qbE P d f.type=true)→m≤cs.length→
   fs.mapM (fun f=>DataW.trod enc P w 0 (fun _=>true) held fuel f.type ((cs.drop f.offset).take (P.cellsOf f.type)))=some xs→
   n≤m∧ ∃as,(∀f∈fs,n≤f.offset∧jg P d f.type ((as.drop (f.offset-n)).take (P.cellsOf f.type)))∧as.length=m-n∧qaB w ow as ((cs.drop n).take (m-n)):=by
 intro fs
 induction fs with
 |nil=>
  intro n m xs ht _ hm _;cases ht;exact⟨Nat.le_refl _,[],by simp,by simp,⟨by simp,by simp,by simp⟩⟩
 |cons f r ihr=>
  intro n m xs ht hk hm hx;simp only[qrS]at ht;split at ht
  ·rename_i hoff;rw[List.mapM_cons]at hx;cases ha:DataW.trod enc P w 0 (fun _=>true) held fuel f.type ((cs.drop f.offset).take (P.cellsOf f.type))with
   |none=>simp[ha]at hx
   |some y=>
    cases hl:r.mapM (fun f=>DataW.trod enc P w 0 (fun _=>true) held fuel f.type ((cs.drop f.offset).take (P.cellsOf f.type)))with
    |none=>simp[ha,hl]at hx
    |some zs=>
     obtain⟨g0,as1,g1,g2,g3⟩:=ihr (n+P.cellsOf f.type) m zs ht (fun g hg=>hk g (by simp[hg])) hm hl;obtain⟨as0,k1,k2,k3⟩:=ih f.type _ y.1 y.2 (hk f (by simp)) (by rw[ha]);rw[hoff]at k3;refine⟨by omega,as0++as1,fun g hg=> ?_,by rw[List.length_append,k2,g2];omega,?_⟩
     ·rcases List.mem_cons.1 hg with rfl|hg
      ·refine⟨by omega,?_⟩;rw[hoff,Nat.sub_self,List.drop_zero,List.take_append_of_le_length (by omega),List.take_of_length_le (by omega)];exact k1
      ·obtain⟨q1,q2⟩:=g1 g hg;refine⟨by omega,?_⟩;rw[List.drop_append,List.drop_of_length_le (by omega),List.nil_append,show g.offset-n-as0.length=g.offset-(n+P.cellsOf f.type) by omega];exact q2
     ·have e:(cs.drop n).take (m-n)=(cs.drop n).take (P.cellsOf f.type)++(cs.drop (n+P.cellsOf f.type)).take (m-(n+P.cellsOf f.type)):=by
       rw[show m-n=P.cellsOf f.type+(m-(n+P.cellsOf f.type)) by omega,List.take_add,List.drop_drop]
      rw[e];exact k3.append g3
  ·cases ht
theorem qn3{a:Addr}{v:Value}(h:w.cell? a=some v): ∃b off,a=⟨b,off,none⟩∧b<w.heap.size:=by
 obtain⟨b,off,spot⟩:=a;unfold World.cell? at h;split at h
 ·rename_i c e f hb;split at h
  ·cases h
  ·rename_i hs;cases spot with
   |some _=>simp at hs
   |none=>exact⟨b,off,rfl,(Array.getElem?_eq_some_iff.1 hb).1⟩
 ·cases h
theorem qlE(how: ∀b,¬ow b): ∀(d fuel:Nat) (t:TypeId) (cs:List Value) (dd:DataW H) (ps:List MemPlace),qbE P d t=true→DataW.trod enc P w 0 (fun _=>true) held fuel t cs=some (dd,ps)→
  ∃as,jg P d t as∧as.length=P.cellsOf t∧qaB w ow as cs:=by
 intro d
 induction d with
 |zero=>intro fuel t cs dd ps hk;cases hk
 |succ d ih=>
  intro fuel t cs dd ps hk h;unfold qbE at hk;unfold jg;split at hk
  ·rename_i ht;have hc:=of_decide_eq_true hk;obtain⟨b,rfl,_⟩:=DataW.trod_bool ht h;exact⟨[.bool b],⟨b,rfl⟩,hc.symm,qaB.single rfl .bool⟩
  ·rename_i k ht;have hc:=of_decide_eq_true hk;obtain⟨n,rfl,_,hw⟩:=DataW.trod_int ht h;exact⟨[.int k n],⟨n,rfl,hw⟩,hc.symm,qaB.single rfl .int⟩
  ·rename_i ht;have hc:=of_decide_eq_true hk;obtain⟨s,rfl,_,hw⟩:=DataW.trod_string ht h;have hsz:s.data.toList.length≤maxLen:=by rw[Array.length_toList];exact hw
   exact⟨[.str s.data.toList],⟨_,rfl,hsz⟩,hc.symm,qaB.single rfl (by have:= @VI.str w ow s.data.toList;rw[Array.toArray_toList]at this;exact this)⟩
  ·rename_i e ht;simp only[Bool.and_eq_true,decide_eq_true_eq]at hk;obtain⟨hc,hpos,hk⟩:=hk;cases fuel with
   |zero=>simp[DataW.trod]at h
   |succ fuel=>
    have hcs:(cs= [.slice none 0 0])∨ ∃a len cap,cs= [.slice (some a) len cap]:=by
     unfold DataW.trod at h;rw[ht]at h;split at h<;>first|(rename_i g _;cases g;done)|skip
     all_goals first|(rename_i g;cases g;done)|skip
     all_goals first|exact .inl rfl|exact .inr ⟨_,_,_,rfl⟩|(cases h;done)
    rcases hcs with rfl|⟨a,len,cap,rfl⟩
    ·exact⟨[.sl 0 fun _=> []],⟨0,fun _=> [],rfl,Nat.zero_le _,fun i hi=>absurd hi (Nat.not_lt_zero _)⟩,hc.symm,qaB.single rfl .nilsl⟩
    ·simp only[DataW.trod,ht]at h;split at h
     ·rename_i hcc;obtain⟨_,c1,c2⟩:=hcc;rw[Option.bind_eq_some_iff]at h;obtain⟨elems,hm,hrest⟩:=h;rw[Option.map_eq_some_iff]at hrest;obtain⟨rest,hrest,_⟩:=hrest
      try simp only[if_true]at hrest
      obtain⟨m1,m2⟩:=qbB hm;obtain⟨r1,r2⟩:=qbB hrest;simp only[List.length_range]at m1 r1;have all: ∀i,i<cap→ ∃x,((w.cells? 0 (a.add (i*P.cellsOf e)) (P.cellsOf e)).bind (DataW.trod enc P w 0 (fun _=>true) held fuel e))=some x:=by
       intro i hi
       by_cases hl:i<len
       ·exact⟨_,m2 i i _ (by simp[hl]) (List.getElem?_eq_getElem (by omega))⟩
       ·have:=r2 (i-len) (i-len) _ (by rw[List.getElem?_range (by omega)]) (List.getElem?_eq_getElem (by omega))
        rw[show len+(i-len)=i by omega]at this;exact⟨_,this⟩
      by_cases hcap:cap=0
      ·subst hcap
       have:len=0:=by omega
       subst this;exact⟨[.sl 0 fun _=> []],⟨0,fun _=> [],rfl,Nat.zero_le _,fun i hi=>absurd hi (Nat.not_lt_zero _)⟩,hc.symm,qaB.single rfl .nilsl⟩
      ·obtain⟨x0,h0⟩:=all 0 (by omega);rw[Option.bind_eq_some_iff]at h0;obtain⟨cs0,h0,_⟩:=h0;rw[Nat.zero_mul]at h0;have hadd0:a.add 0=a:=by simp[Addr.add]
       rw[hadd0]at h0;unfold World.cells? at h0;rw[if_pos (Nat.zero_le _)]at h0;obtain⟨n1,n2⟩:=qbB h0;simp only[List.length_range]at n1;have hcell:=n2 0 0 _ (by simp[hpos]) (List.getElem?_eq_getElem (show 0<cs0.length by omega));rw[hadd0]at hcell;obtain⟨b,off,rfl,hlt⟩:=qn3 hcell;have hadd: ∀n,(⟨b,off,none⟩:Addr).add n=⟨b,off+n,none⟩:=by
        intro n;unfold Addr.add;split
        ·rename_i h;subst h;rfl
        ·rfl
       have hadd2: ∀n m,(⟨b,off+n,none⟩:Addr).add m=⟨b,off+n+m,none⟩:=by
        intro n m;unfold Addr.add;split
        ·rename_i h;subst h;rfl
        ·rfl
       have key: ∀i,i<len→ ∃(as:List AV) (cs:List Value),jg P d e as∧as.length=P.cellsOf e∧qaB w ow as cs∧(∀(j:Nat) v,cs[j]? =some v→w.cell? ⟨b,off+i*P.cellsOf e+j,none⟩=some v):=by
        intro i hi;obtain⟨x,hx⟩:=all i (by omega);rw[Option.bind_eq_some_iff]at hx;obtain⟨cs,h3,h4⟩:=hx;obtain⟨as,f1,f2,f3⟩:=ih fuel e cs x.1 x.2 hk h4;rw[hadd]at h3;unfold World.cells? at h3;rw[if_pos (Nat.zero_le _)]at h3;obtain⟨n1,n2⟩:=qbB h3;simp only[List.length_range]at n1;refine⟨as,cs,f1,f2,f3,fun j v hj=> ?_⟩;have hjl:j<P.cellsOf e:=by have:=(List.getElem?_eq_some_iff.1 hj).1;omega
        have:=n2 j j v (by simp[hjl]) hj
        rw[hadd2]at this;exact this
       have ex: ∃g:Nat→List AV×List Value,∀i,i<len→jg P d e (g i).1∧(g i).1.length=P.cellsOf e∧qaB w ow (g i).1 (g i).2∧(∀(j:Nat) v,(g i).2[j]? =some v→w.cell? ⟨b,off+i*P.cellsOf e+j,none⟩=some v):=by
        refine⟨fun i=>if hi:i<len then ((key i hi).choose,(key i hi).choose_spec.choose) else ([],[]),fun i hi=> ?_⟩;simp only[dif_pos hi];exact (key i hi).choose_spec.choose_spec
       obtain⟨g,hg⟩:=ex;refine⟨[.sl len fun i=>(g i).1],⟨len,fun i=>(g i).1,rfl,Nat.le_trans c1 c2,fun i hi=>(hg i hi).1⟩,hc.symm,qaB.single rfl (.sl (P.cellsOf e) b off cap (fun i j=>(g i).2.getD j Go.undef) c1 c2 (fun _=>how b) hlt (fun i hi=>(hg i hi).2.1) (fun i j hi hj=> ?_) (fun i j hi hj=> ?_) (fun i j c hi hc=> ?_))⟩
       ·obtain⟨_,q2,q3,q4⟩:=hg i hi;have hl:=q3.len;have e:(g i).2[j]? =some (g i).2[j]:=List.getElem?_eq_getElem (by omega);rw[q4 j _ e,List.getD_eq_getElem?_getD,e];rfl
       ·obtain⟨_,q2,q3,q4⟩:=hg i hi;have hl:=q3.len;have e:(g i).2[j]? =some (g i).2[j]:=List.getElem?_eq_getElem (by omega);rw[List.getD_eq_getElem?_getD,e];exact q3.one j _ e
       ·obtain⟨_,q2,q3,q4⟩:=hg i hi;have hl:=q3.len;have hj:=(List.getElem?_eq_some_iff.1 hc).1;have e:(g i).2[j]? =some (g i).2[j]:=List.getElem?_eq_getElem (by omega);rw[List.getD_eq_getElem?_getD,e];exact q3.vi j c _ hc e
     ·cases h
  ·rename_i fs ht;simp only[Bool.and_eq_true,decide_eq_true_eq,List.all_eq_true]at hk;obtain⟨htile,hk⟩:=hk;cases fuel with
   |zero=>simp[DataW.trod]at h
   |succ fuel=>
    simp only[DataW.trod,ht]at h;split at h
    ·rename_i hcl;rw[Option.map_eq_some_iff]at h;obtain⟨xs,hm,_⟩:=h;obtain⟨_,as,g1,g2,g3⟩:=qgs (fun t cs dd ps=>ih fuel t cs dd ps) fs.toList 0 (P.cellsOf t) xs htile hk (by omega) hm;rw[Nat.sub_zero]at g2 g3;rw[List.drop_zero,List.take_of_length_le (by omega)]at g3;exact⟨as,⟨g2,fun f hf=>by have:=(g1 f hf).2;rwa [Nat.sub_zero]at this⟩,g2,g3⟩
    ·cases h
  ·cases hk
theorem qhR(how: ∀b,¬ow b){d:Nat}{t:TypeId}{cs:Array Value}{dd:DataW H}{ps:List MemPlace}(hk:qbE P d t=true)(h:DataW.Trod enc P w 0 (fun _=>true) held t (.agg cs) dd ps): ∃as,jg P d t as∧VI w ow (.agg as) (.agg cs):=by
 obtain⟨fuel,h⟩:=h;obtain⟨as,g1,g2,g3⟩:=qlE how d fuel t _ dd ps hk h;refine⟨as,g1,.agg ?_ (fun i x hx=>g3.one i x ?_) (fun i c x hc hx=>g3.vi i c x hc ?_)⟩
 ·have:=g3.len;simpa[Value.cells] using this
 ·simpa[Value.cells] using hx
 ·simpa[Value.cells] using hx
end
end AF
end
section
namespace AF
open Go
def zk(v:Nat)(ty:TypeId)(cs:List AV):AObj:=if cs= [] then .emp v else .mem v ty cs
section
variable {h l : List AObj} {k v w n c : Nat} {ty : TypeId} {cs ms : List AV} {a : AV} {o : AObj}
theorem qas(h:cs≠ []):zk v ty cs= .mem v ty cs:=if_neg h
theorem liveS_own0:qF (zk v ty cs::l) 0 w=(v==w):=by unfold zk;split<;>rfl
theorem tyOk_own:qjY (some (zk v ty cs)) ty=true:=by
 unfold zk;split
 ·rfl
 ·simp[qjY]
theorem cells_own0:((cellsOf (zk v ty cs::l) 0 v).getD [])=cs:=by
 unfold zk;split
 ·rename_i e;rw[e];rfl
 ·rw[cellsOf_0,if_pos rfl];rfl
theorem cellsS_own0:((cellsOf (zk v ty cs::l) 0 v).isSome=true)=(cs≠ []):=by
 unfold zk;split
 ·rename_i e;rw[e];simp[cellsOf,qr]
 ·rename_i e;rw[cellsOf_0,if_pos rfl];simp[e]
theorem qpb{b:AV}:qhf (some (zk v ty cs)) ty w c (n+1) (b::ms)=zk (w+1) ty (cs.take c++b::ms):=by
 rw[show zk (w+1) ty (cs.take c++b::ms)= .mem (w+1) ty (cs.take c++b::ms)from qas (by simp)];unfold zk;split
 ·rename_i e;rw[e];simp[qhf]
 ·rfl
theorem appO_own1{b:AV}:qhf (some (zk v ty cs)) ty w c 1 (b::ms)=zk (w+1) ty (cs.take c++b::ms):=qpb (n:=0)
end
attribute [go_sem] liveS_own0 tyOk_own cells_own0 cellsS_own0 appO_own1
end AF
end
section
namespace AF
open Go
def LowI(h hh:List AObj):Prop:=hh.length=h.length∧ ∀o∈hh,o∈h∨(lowO h.length o∧lowO (h.length+1) o)
theorem LowI.refl(h:List AObj):LowI h h:=⟨rfl,fun _ ho=> .inl ho⟩
theorem kR{hh tl:List AObj}{o:AObj}{k:Nat}(h:hh.length=k):qr k (hh++o::tl)=some o:=by subst h;exact getO_app0
theorem qcw{hh tl:List AObj}{o o':AObj}{k:Nat}(h:hh.length=k):qn k (hh++o::tl) o'=hh++o'::tl:=by subst h;exact setO_app0
def qoX(P:Program)(f:FuncId)(cap:List AV)(xs:List (List AV)):Prop:=
 ∀(h:List AObj) (ts:List AV) (L:LInfo) (S:Nat→List AObj→Prop) (E:LS→List AObj→Prop),
  (∀i hh,S i hh→LowI h hh)→(∀s hh,E s hh→LowI h hh)→
  (∀i hh tl,(hi:i<xs.length)→S i hh→kk P h.length (xs[i]) (hh++ .lp .ready ts L::tl) (fun r h'=> ∃hh',(r= .bool true∧S (i+1) hh'∧h'=hh'++ .lp .ready ts L::tl)∨(∃s,r= .bool false∧E s hh'∧h'=hh'++ .lp s ts L::tl)))→
  S 0 h→(∀c∈ts,qV (h.length+1) c=true)→
  jc P f (.yld h.length::cap) (h++ [.lp .ready ts L]) (fun _ h'=> ∃hh,(S xs.length hh∧h'=hh++ [.lp .ready ts L])∨ ∃s,E s hh∧h'=hh++ [.lp s ts L])
theorem qi8{P:Program}{f:FuncId}{cap:List AV}{xs:List (List AV)}(hf:qoX P f cap xs){ps:List Nat}{b:Nat}{x y:C}{Q:Ex→Nx}{ts:List AV}{h:List AObj}(hps: ∀a∈xs,a.length=ps.length)
  (S:Nat→List AObj→Prop) (E:Ex→List AObj→Prop) (hS: ∀i hh,S i hh→LowI h hh) (hE: ∀s hh,E s hh→LowI h hh)
  (start:S 0 h) (hts: ∀c∈ts,qV (h.length+1) c=true)
  (body: ∀i hh tl L,(hi:i<xs.length)→S i hh→hh.length=h.length→
   qX P b x (fun e t2 h2=>e= .normal∧h2=hh++ .lp .ready ts L::tl∧
    qX P b y (fun e t3 h3=> ∃hh',h3=hh'++ .lp .busy ts L::tl∧hh'.length=h.length∧match e with
     | .normal=>S (i+1) hh'
     | .ret=>E .ret hh'
     | .exit id=>E (.exit id) hh') t2 (hh++ .lp .busy ts L::tl)) (kJ ts ps (xs[i])) (hh++ .lp .ready ts L::tl))
  (done: ∀hh,S xs.length hh→Q .normal ts hh) (doneE: ∀e hh,E e hh→match e with
   | .normal=>False
   |e=>Q e ts hh):
  qfM P (.fn (.func f) [] cap) ps (qX P b x) (qX P b y) Q ts h:=by
 intro L hy;show jc _ _ _ _ _;have key:=hf h ts L S (fun s hh=>match s with
  | .ret=>E .ret hh
  | .exit id=>E (.exit id) hh
  |_=>False) hS
  (by
   intro s hh hs;cases s with
   |ret=>exact hE _ _ hs
   |exit id=>exact hE _ _ hs
   |ready=>exact hs.elim
   |busy=>exact hs.elim)
  (by
   intro i hh tl hi i4;have hlen:=(hS _ _ i4).1;refine hy h.length ts _ _ _ (kR hlen) (hps _ (List.getElem_mem hi)) ?_;have hb:=body i hh tl L hi i4 hlen;refine qaR ?_ hb;rintro e t2 h2 ⟨rfl,rfl,h3⟩;refine⟨rfl,⟨ts,kR hlen⟩,fun ts' hts'=> ?_⟩;rw[kR hlen]at hts';cases hts';rw[qcw hlen];refine qaR ?_ h3;rintro e t3 h3' ⟨hh',rfl,g1,g2⟩;refine⟨ts,kR g1,?_⟩;cases e with
   |normal=>exact⟨hh',.inl ⟨rfl,g2,qcw g1⟩⟩
   |ret=>exact⟨hh',.inr ⟨.ret,rfl,g2,qcw g1⟩⟩
   |exit id=>exact⟨hh',.inr ⟨.exit id,rfl,g2,qcw g1⟩⟩)
  start hts
 refine key.le (qbW.refl _) ?_;rintro v h' ⟨hh,⟨g1,rfl⟩|⟨s,g1,rfl⟩⟩
 ·have hl:=hS _ _ g1;exact⟨v,VLe.refl _,hh,.ready,ts,L,rfl,hl.1,fun o ho=>(hl.2 o ho).imp (fun h=>h) And.left,done hh g1⟩
 ·cases s with
  |ready=>exact g1.elim
  |busy=>exact g1.elim
  |ret=>
   have hl:=hE _ _ g1;exact⟨v,VLe.refl _,hh,.ret,ts,L,rfl,hl.1,fun o ho=>(hl.2 o ho).imp (fun h=>h) And.left,doneE _ _ g1⟩
  |exit id=>
   have hl:=hE _ _ g1;exact⟨v,VLe.refl _,hh,.exit id,ts,L,rfl,hl.1,fun o ho=>(hl.2 o ho).imp (fun h=>h) And.left,doneE _ _ g1⟩
theorem qhy{rs:List RV}{h0 h':List AObj}{K:AV→List AObj→Prop}{t:List AV}{r:AV}(hok:qah t h' rs)(hl:h'.length=h0.length)(hlow: ∀o∈h',o∈h0∨lowO h0.length o)(hK:K r h')
  (hv:VLe (frz (fun k=>decide (h0.length≤k)) h' 8 (qgF (jf t h' rs))) r):fnQ rs h0 K .ret t h':=
 ⟨r,h',hK,hok,⟨[],(List.append_nil _).symm⟩,hl,hlow,VOut.of 8 hv⟩
theorem jC{rs:List RV}{h0 h':List AObj}{K:AV→List AObj→Prop}{t:List AV}{r:AV}(hok:qah t h' rs)(hl:h'.length=h0.length)(hlow: ∀o∈h',o∈h0∨lowO h0.length o)(hK:K r h')
  (hv:VLe (frz (fun k=>decide (h0.length≤k)) h' 8 (qgF (jf t h' rs))) r):fnQ rs h0 K .normal t h':=
 ⟨r,h',hK,hok,⟨[],(List.append_nil _).symm⟩,hl,hlow,VOut.of 8 hv⟩
end AF
end
section
namespace AF
open Go
section
variable {P : Program} {b : Nat} {r : List RO} {K : Nx} {t : List AV} {h : List AObj} {xs : List X}
theorem qDU{d:Nat}:opsA P b (⟨some d,none,.b2s,xs⟩::r) K t h=(flags (evs t xs)∧okL h .b2s (strips (evs t xs))∧opsA P b r K (jj d t (valL h .b2s (strips (evs t xs)))) h):=by simp only[opsA,stepO,stepA,R.kd,qT]
theorem qD0{d:Option Nat}:opsA P b (⟨d,none,.s2b,xs⟩::r) K t h=(flags (evs t xs)∧effE b h .s2b (strips (evs t xs)) t d (opsA P b r K)):=by simp only[opsA,stepO,stepA,R.kd]
theorem qCI{nx:List AV→List AObj→Prop}{d:Option Nat}{s:List UInt8}:effE b h .s2b [.str s] t d nx=((s.length:Int)≤140737488355328∧nx (qT t d (.sl s.length fun i=> [.int .u8 ((s.getD i 0).toNat:Int)])) h):=(rfl)
end
theorem w_gix{P:Program}{b:Nat}{r:List RO}{K:Nx}{t:List AV}{h:List AObj}{xs:List X}{d:Option Nat}{g n sz:Nat}:opsA P b (⟨d,none,.gix g n sz,xs⟩::r) K t h=(flags (evs t xs)∧effE b h (.gix g n sz) (strips (evs t xs)) t d (opsA P b r K)):=by simp only[opsA,stepO,stepA,R.kd]
attribute [go_sem] w_gix
theorem qsF{b:Nat}{t:List AV}{h:List AObj}{nx:List AV→List AObj→Prop}{d:Option Nat}{g n sz:Nat}{k:IntKind}{i:Int}{cs:List AV}(hg:zK h g cs)(h0:0≤i∧i<n)(h2:cs.length=n*sz)(hn:nx (qT t d (.ip ((cs.drop (i.toNat*sz)).take sz))) h):
  effE b h (.gix g n sz) [.int k i] t d nx:=⟨cs,hg,h0,h2,hn⟩
theorem zK.app{h l:List AObj}{g:Nat}{cs:List AV}(hg:zK h g cs):zK (h++l) g cs:=by
 obtain⟨k,bs,G,h1,h2⟩:=hg;exact⟨k,bs,G,by rw[List.getElem?_append_left (List.getElem?_eq_some_iff.1 h1).1];exact h1,h2⟩
theorem qfh(c:UInt8):qbm (.int .u8 (c.toNat:Int))=c:=by simp[qbm]
theorem qfz(c:UInt8):qdR (.int .u8 (c.toNat:Int)):=by
 have:=c.toNat_lt
 exact⟨by omega,by omega⟩
theorem jy(s:List UInt8):(zI s).length=s.length:=by simp[zI]
theorem qg6{g:List AObj}:valL g .b2s [.nl]= .str []:=rfl
theorem qi2{g:List AObj}:okL g .b2s [.nl]=True:=rfl
theorem qf6{g:List AObj}{k v z p n:Nat}:valL g .b2s [.osl k v z p n]= .str (((((cellsOf g k v).getD []).drop p).take n).map qbm):=rfl
theorem qgA{g:List AObj}{k v z p n:Nat}:okL g .b2s [.osl k v z p n]=(qF g k v=true∧z=1∧p+n≤((cellsOf g k v).getD []).length∧ ∀c∈((((cellsOf g k v).getD []).drop p).take n),qdR c):=rfl
theorem qvl{x:AV}{q:Bool}:kh (.bool false) x (.bool q)= .bool q:=by
 unfold kh;simp only[AV.strip,qbl];split
 ·rename_i p' q' h1 h2;cases h2;simp
 ·simp
theorem qvm{y:AV}{p:Bool}:kh (.bool true) (.bool p) y= .bool p:=by
 unfold kh;simp only[AV.strip,qbl];split
 ·rename_i p' q' h1 h2;cases h1;simp
 ·simp
attribute [go_sem] qvl qvm
theorem qk7{P:Program}{f:FuncId}{first cap args:List AV}{d:Option Nat}{nx:Nx}{t:List AV}{h:List AObj}{R:AV→List AObj→Prop}(hc:jc P f (first++args++cap) h R)(hn: ∀v h',R v h'→nx (qT t d v) h'):qbn P (.fn (.func f) first cap::args) d nx t h:=⟨R,hc,hn⟩
theorem qy{P:Program}{f:Nat}{first cap args:List AV}{d:Option Nat}{nx:Nx}{t:List AV}{h:List AObj}{v:AV}(hc:ACalls P f (first++args++cap) h v h)(hn:nx (qT t d v) h):qbn P (.fn (.func f) first cap::args) d nx t h:=⟨_,hc.toQ,by rintro _ _ ⟨rfl,rfl⟩;exact hn⟩
attribute [go_sem] qDU qD0 qCI qg6 qi2 qf6 qgA
end AF
end
section
namespace AF
open Go
section
variable {P : Program} {b : Nat} {r : List RO} {K : Nx} {t : List AV} {h : List AObj} {xs : List X}
end
theorem valL_capnl{g:List AObj}:valL g .cap [.nl]= .int .i64 0:=rfl
theorem qmK{g:List AObj}:okL g .cap [.nl]=True:=rfl
theorem qjP{g:List AObj}{z:Nat}{lo hi:Bool}{bs:List AV}:valL g (.slc z lo hi) (.nl::bs)= .nl:=rfl
attribute [go_sem] valL_capnl qmK qjP
end AF
end
section
namespace AF
open Go
section
variable {P : Program} {b : Nat} {K : Nx} {t : List AV} {h : List AObj}
theorem t_nil:qcB P b .nil K t h=K t h:=(rfl)
theorem t_one{o:RO}{r:DT}:qcB P b (.one o r) K t h=opsA P b [o] (qcB P b r K) t h:=(rfl)
theorem t_two{x y:DT}:qcB P b (.two x y) K t h=(qcB P b x K t h∧qcB P b y K t h):=(rfl)
theorem t_univ{r:DT}{d:Option Nat}{xs:List X}:qcB P b (.uni ⟨d,none,.callv,xs⟩ r) K t h=qk5 P (evs t xs) d (qcB P b r K) t h:=(rfl)
theorem qk6{f:Nat}{first cap args:List AV}{d:Option Nat}{nx:Nx}{v:AV}(hc:ACalls P f (first++strips args++cap) h v h)(hf:flags (.fn (.func f) first cap::args))(hn:nx (qT t d v) h):qk5 P (.fn (.func f) first cap::args) d nx t h:=⟨hf,v,hc,hn⟩
theorem t_uni{r:DT}{d:Option Nat}{f:Nat}{p:Bool}{xs:List X}:qcB P b (.uni ⟨d,none,.call f p,xs⟩ r) K t h=qpu P f (evs t xs) d (qcB P b r K) t h:=(rfl)
theorem jB{d:DT}{Q:Ex→Nx}(T:List AV)(H:List AObj)(h1:qcB P b d (fun t' h'=>t'=T∧h'=H) t h)(h2:Q .normal T H):qX P b (.draw d) Q t h:=
 ⟨_,h1,fun t' h' ⟨e1,e2⟩=>by subst e1;subst e2;exact h2⟩
theorem qpv{f:Nat}{vs:List AV}{d:Option Nat}{nx:Nx}{r:AV}(hc: ∀h0,ACalls P f (strips vs) h0 r h0)(hf:flags vs)(hn:nx (qT t d r) h):qpu P f vs d nx t h:=⟨hf,r,hc,hn⟩
end
attribute [go_sem] t_univ t_nil t_one t_two t_uni
end AF
end
section
namespace AF
open Go
section
variable {P : Program} {b : Nat} {r : List RO} {K : Nx} {t : List AV} {h l : List AObj} {xs : List X} {ks : AK} {ok : Bool} {z : AV} {d : Option Nat} {nx : List AV → List AObj → Prop}
theorem w_cpy{sz:Nat}:opsA P b (⟨d,none,.cpy sz,xs⟩::r) K t h=(flags (evs t xs)∧effE b h (.cpy sz) (strips (evs t xs)) t d (opsA P b r K)):=by simp only[opsA,stepO,stepA,R.kd]
theorem e_cpy{sz sz' k ver off m:Nat}{y:AV}:effE b h (.cpy sz) [.osl k ver sz' off m,y] t d nx=((qF h k ver=true∧(cellsOf h k ver).isSome=true∧sz'=sz∧off+m*sz≤((cellsOf h k ver).getD []).length∧(qk h y).isSome=true∧((qk h y).getD (0,[])).2.length=((qk h y).getD (0,[])).1*sz)∧
  nx (qT t d (.int .i64 ((min ((qk h y).getD (0,[])).1 m:Nat):Int))) (qn k h (.mem ver (qjF (qr k h)) (((cellsOf h k ver).getD []).take off++((qk h y).getD (0,[])).2.take (min ((qk h y).getD (0,[])).1 m*sz)++((cellsOf h k ver).getD []).drop (off+min ((qk h y).getD (0,[])).1 m*sz))))):=(rfl)
end
section
variable {h l : List AObj} {ks : AK} {ok : Bool} {z x : AV} {k ver n v w : Nat} {es : List (AV × AV)} {o : AObj}
theorem valL_mlk_t:valL h (.mlk ks true z) [.mp k ver,x]= .tup [(qgz ks x z ((jN h k ver).getD [])).1,.bool (qgz ks x z ((jN h k ver).getD [])).2]:=rfl
theorem valL_mlk_f:valL h (.mlk ks false z) [.mp k ver,x]=(qgz ks x z ((jN h k ver).getD [])).1:=rfl
theorem okL_mlk:okL h (.mlk ks ok z) [.mp k ver,x]=((jN h k ver).isSome=true∧okK ks x∧(qcA ks x ((jN h k ver).getD []) 0).isSome=true):=rfl
theorem mapOf_0:jN (.map w es::l) 0 v=if w=v then some es else none:=rfl
theorem mapOf_s:jN (o::l) (n+1) v=jN l n v:=rfl
theorem site_0_map:qJ (.map v es::l) 0=true:=rfl
theorem verOf_map:qo (some (.map v es))=v:=rfl
theorem strip_mp:(AV.mp k v).strip=AV.mp k v:=rfl
theorem flag_mp:(AV.mp k v).flag=true:=rfl
theorem solid_mp:(AV.mp k v).solid=true:=rfl
theorem cells_mp:(AV.mp k v).cells= [AV.mp k v]:=rfl
theorem okK_str{s:List UInt8}:okK .str (.str s)=True:=rfl
theorem okK_int{q:IntKind}{i:Int}:okK .int (.int q i)=True:=rfl
theorem okK_bool{q:Bool}:okK .bool (.bool q)=True:=rfl
theorem frz_mp{fz:Nat→Bool}:frz fz h (n+1) (.mp k v)=if fz k then .undef else .mp k v:=rfl
end
attribute [go_sem] w_cpy e_cpy valL_mlk_t valL_mlk_f okL_mlk mapOf_0 mapOf_s site_0_map verOf_map strip_mp flag_mp solid_mp cells_mp okK_str okK_int okK_bool frz_mp
section
variable {P : Program} {b : Nat} {r : List RO} {K : Nx} {t : List AV} {h : List AObj} {xs : List X} {d : Nat}
theorem qBn{z:Nat}:opsA P b (⟨some d,none,.fldI z,xs⟩::r) K t h=(flags (evs t xs)∧okP (.fldI z) (strips (evs t xs))∧opsA P b r K (jj d t (valP (.fldI z) (strips (evs t xs)))) h):=by simp only[opsA,stepO,stepA,R.kd,qT]
theorem qwg{z:Option Nat}:opsA P b (⟨some d,none,.loadI z,xs⟩::r) K t h=(flags (evs t xs)∧okP (.loadI z) (strips (evs t xs))∧opsA P b r K (jj d t (valP (.loadI z) (strips (evs t xs)))) h):=by simp only[opsA,stepO,stepA,R.kd,qT]
end
theorem valP_idxI{z n:Nat}{f:Nat→List AV}{k:IntKind}{i:Int}:valP (.idxI z) [.sl n f,.int k i]= .ip (f i.toNat):=rfl
theorem qqV{z n:Nat}{f:Nat→List AV}{k:IntKind}{i:Int}:okP (.idxI z) [.sl n f,.int k i]=((0≤i∧i<n)∧(f i.toNat).length=z):=rfl
theorem qoG{z:Nat}{cs:List AV}:valP (.fldI z) [.ip cs]= .ip (cs.drop z):=rfl
theorem qqU{z:Nat}{cs:List AV}:okP (.fldI z) [.ip cs]=(z<cs.length):=rfl
theorem qjR{z:Option Nat}{cs:List AV}:valP (.loadI z) [.ip cs]=cut cs 0 z:=rfl
theorem qmS{z:Option Nat}{cs:List AV}:okP (.loadI z) [.ip cs]=kB cs 0 z:=rfl
attribute [go_sem] qBn qwg valP_idxI qqV qoG qqU qjR qmS
end AF
end
theorem gdqA{α:Type _}{l:List α}{i:Nat}{a:α}:l.getD i a=l[i]?.getD a:=List.getD_eq_getElem?_getD
theorem zL{α:Type _}{l:List α}{i:Nat}(h:i<l.length):l[i]? =some l[i]:=List.getElem?_eq_getElem h
theorem qi{v:AF.AV}:AF.VLe v v:=AF.VLe.refl v
theorem aiA{p q:Prop}(h1:p)(h2:q):p∧q:=⟨h1,h2⟩
theorem eqt{p : Prop}(h : p) : p = True := eq_true h
theorem eqf{p : Prop}(h : ¬p) : p = False := eq_false h
theorem dqt{p : Prop}[Decidable p](h : p) : decide p = true := decide_eq_true h
theorem dqf{p : Prop}[Decidable p](h : ¬p) : decide p = false := decide_eq_false h
theorem ipo{c : Prop}{h : Decidable c}(hc : c){α : Sort _}{t e : α} : ite c t e = t := if_pos hc
theorem ine{c : Prop}{h : Decidable c}(hc : ¬c){α : Sort _}{t e : α} : ite c t e = e := if_neg hc
theorem nzl(n : Nat) : 0 ≤ n := Nat.zero_le n
theorem nlr(n : Nat) : n ≤ n := Nat.le_refl n
theorem nnz(n : Nat) : ¬n < 0 := Nat.not_lt_zero n
theorem lap{α : Type _}{as bs : List α} : (as ++ bs).length = as.length + bs.length := List.length_append
theorem lnl{α : Type _} : ([] : List α).length = 0 := rfl
theorem lco{α : Type _}{a : α}{as : List α} : (a :: as).length = as.length + 1 := rfl
theorem lan{α : Type _}(as : List α) : as ++ [] = as := List.append_nil as
theorem lna{α : Type _}(as : List α) : [] ++ as = as := rfl
theorem lca{α : Type _}{a : α}{as bs : List α} : (a :: as) ++ bs = a :: (as ++ bs) := rfl
theorem itn(n : Nat) : ((n : Int)).toNat = n := rfl
theorem lgs{α : Type _}{a : α}{i : Nat}{l : List α} : l[i]? = some a ↔ ∃ h : i < l.length, l[i] = a := List.getElem?_eq_some_iff
theorem ltl{α : Type _}{i : Nat}{l : List α}(h : l.length ≤ i) : l.take i = l := List.take_of_length_le h
theorem om{p : Prop}(h : p := by omega) : p := h
