import Derived.Test.YtmieflnoheifbaaGreatDoorK2
import Derived.Test.YtmieflnoheifbaaGreatDoorK3
import Derived.Below
import Derived.ChangeSame
import Derived.ChangeShapes
import Derived.CallsIn
import Derived.Carry
import Derived.RowKit
import Derived.WalkKit
import Derived.ProofKit
set_option linter.all false
section
namespace AF
open Go
set_option maxRecDepth 4000
def qGl(k:IntKind)(a c:Int):Int:=k.wrap (a*2^(min c.toNat k.bits))
def qvM(k:IntKind)(a c:Int):Int:=a.fdiv (2^(min c.toNat k.bits))
def qnI(k:IntKind)(a c:Int):Int:=k.wrap (BitVec.ofInt k.bits a&&&BitVec.ofInt k.bits c).toNat
def orK(k:IntKind)(a c:Int):Int:=k.wrap (BitVec.ofInt k.bits a|||BitVec.ofInt k.bits c).toNat
def qGR(k:IntKind)(a c:Int):Int:=k.wrap (BitVec.ofInt k.bits a^^^BitVec.ofInt k.bits c).toNat
def qse(k:IntKind)(a c:Int):Int:=k.wrap (BitVec.ofInt k.bits a&&& ~~~ BitVec.ofInt k.bits c).toNat
theorem qz3{a0:AV}{r:wi}:zU 0 (a0::r)=a0:=rfl
theorem qAZ{a0 v:AV}{r:wi}:jv 0 (a0::r) v=v::r:=rfl
theorem qz4{a0 a1:AV}{r:wi}:zU 1 (a0::a1::r)=a1:=rfl
theorem qA0{a0 a1 v:AV}{r:wi}:jv 1 (a0::a1::r) v=a0::v::r:=rfl
theorem qz5{a0 a1 a2:AV}{r:wi}:zU 2 (a0::a1::a2::r)=a2:=rfl
theorem qA1{a0 a1 a2 v:AV}{r:wi}:jv 2 (a0::a1::a2::r) v=a0::a1::v::r:=rfl
theorem qz6{a0 a1 a2 a3:AV}{r:wi}:zU 3 (a0::a1::a2::a3::r)=a3:=rfl
theorem qA2{a0 a1 a2 a3 v:AV}{r:wi}:jv 3 (a0::a1::a2::a3::r) v=a0::a1::a2::v::r:=rfl
theorem qz7{a0 a1 a2 a3 a4:AV}{r:wi}:zU 4 (a0::a1::a2::a3::a4::r)=a4:=rfl
theorem qA3{a0 a1 a2 a3 a4 v:AV}{r:wi}:jv 4 (a0::a1::a2::a3::a4::r) v=a0::a1::a2::a3::v::r:=rfl
theorem qz8{a0 a1 a2 a3 a4 a5:AV}{r:wi}:zU 5 (a0::a1::a2::a3::a4::a5::r)=a5:=rfl
theorem qA4{a0 a1 a2 a3 a4 a5 v:AV}{r:wi}:jv 5 (a0::a1::a2::a3::a4::a5::r) v=a0::a1::a2::a3::a4::v::r:=rfl
theorem qz9{a0 a1 a2 a3 a4 a5 a6:AV}{r:wi}:zU 6 (a0::a1::a2::a3::a4::a5::a6::r)=a6:=rfl
theorem qA5{a0 a1 a2 a3 a4 a5 a6 v:AV}{r:wi}:jv 6 (a0::a1::a2::a3::a4::a5::a6::r) v=a0::a1::a2::a3::a4::a5::v::r:=rfl
theorem qAa{a0 a1 a2 a3 a4 a5 a6 a7:AV}{r:wi}:zU 7 (a0::a1::a2::a3::a4::a5::a6::a7::r)=a7:=rfl
theorem qA6{a0 a1 a2 a3 a4 a5 a6 a7 v:AV}{r:wi}:jv 7 (a0::a1::a2::a3::a4::a5::a6::a7::r) v=a0::a1::a2::a3::a4::a5::a6::v::r:=rfl
theorem qtA{n:Nat}{a0 a1 a2 a3 a4 a5 a6 a7:AV}{r:wi}:zU (n+8) (a0::a1::a2::a3::a4::a5::a6::a7::r)=zU n r:=rfl
theorem quO{n:Nat}{a0 a1 a2 a3 a4 a5 a6 a7 v:AV}{r:wi}:jv (n+8) (a0::a1::a2::a3::a4::a5::a6::a7::r) v=a0::a1::a2::a3::a4::a5::a6::a7::jv n r v:=rfl
theorem qpa{n:Nat}{a0 a1 a2 a3 a4 a5 a6 a7 a8 a9 a10 a11 a12 a13 a14 a15 a16 a17 a18 a19 a20 a21 a22 a23 a24 a25 a26 a27 a28 a29 a30 a31:AV}{r:wi}:zU (n+32) (a0::a1::a2::a3::a4::a5::a6::a7::a8::a9::a10::a11::a12::a13::a14::a15::a16::a17::a18::a19::a20::a21::a22::a23::a24::a25::a26::a27::a28::a29::a30::a31::r)=zU n r:=rfl
theorem qqf{n:Nat}{a0 a1 a2 a3 a4 a5 a6 a7 a8 a9 a10 a11 a12 a13 a14 a15 a16 a17 a18 a19 a20 a21 a22 a23 a24 a25 a26 a27 a28 a29 a30 a31 v:AV}{r:wi}:jv (n+32) (a0::a1::a2::a3::a4::a5::a6::a7::a8::a9::a10::a11::a12::a13::a14::a15::a16::a17::a18::a19::a20::a21::a22::a23::a24::a25::a26::a27::a28::a29::a30::a31::r) v=a0::a1::a2::a3::a4::a5::a6::a7::a8::a9::a10::a11::a12::a13::a14::a15::a16::a17::a18::a19::a20::a21::a22::a23::a24::a25::a26::a27::a28::a29::a30::a31::jv n r v:=rfl
theorem qFD{t:wi}{n:Nat}:ev t (.t n)=zU n t:=rfl
theorem qFC{t:wi}{v:AV}:ev t (.c v)=v:=rfl
theorem qiB{b:Bool}:(AV.bool b).strip=(AV.bool b):=rfl
theorem qkQ{b:Bool}:(AV.bool b).flag=true:=rfl
theorem qin{b:Bool}:(AV.bool b).solid=true:=rfl
theorem qhB{b:Bool}:(AV.bool b).cells= [(AV.bool b)]:=rfl
theorem qmY{k:IntKind}{n:Int}:(AV.int k n).strip=(AV.int k n):=rfl
theorem qoP{k:IntKind}{n:Int}:(AV.int k n).flag=true:=rfl
theorem qmH{k:IntKind}{n:Int}:(AV.int k n).solid=true:=rfl
theorem qkj{k:IntKind}{n:Int}:(AV.int k n).cells= [(AV.int k n)]:=rfl
theorem qm2{s:List UInt8}:(AV.str s).strip=(AV.str s):=rfl
theorem qoT{s:List UInt8}:(AV.str s).flag=true:=rfl
theorem qmL{s:List UInt8}:(AV.str s).solid=true:=rfl
theorem qkn{s:List UInt8}:(AV.str s).cells= [(AV.str s)]:=rfl
theorem qqH{n:Nat}{f:Nat->wi}:(AV.sl n f).strip=(AV.sl n f):=rfl
theorem qtn{n:Nat}{f:Nat->wi}:(AV.sl n f).flag=true:=rfl
theorem qqw{n:Nat}{f:Nat->wi}:(AV.sl n f).solid=true:=rfl
theorem qox{n:Nat}{f:Nat->wi}:(AV.sl n f).cells= [(AV.sl n f)]:=rfl
theorem qm0{k v s p l:Nat}:(AV.osl k v s p l).strip=(AV.osl k v s p l):=rfl
theorem qoR{k v s p l:Nat}:(AV.osl k v s p l).flag=true:=rfl
theorem qmJ{k v s p l:Nat}:(AV.osl k v s p l).solid=true:=rfl
theorem qkl{k v s p l:Nat}:(AV.osl k v s p l).cells= [(AV.osl k v s p l)]:=rfl
theorem qmW{c:wi}:(AV.agg c).strip=(AV.agg c):=rfl
theorem qoN{c:wi}:(AV.agg c).flag=true:=rfl
theorem qmF{c:wi}:(AV.agg c).solid=true:=rfl
theorem qm3{c:wi}:(AV.tup c).strip=(AV.tup c):=rfl
theorem qoU{c:wi}:(AV.tup c).flag=true:=rfl
theorem qko{c:wi}:(AV.tup c).cells= [(AV.tup c)]:=rfl
theorem qqE{c:wi}:(AV.ip c).strip=(AV.ip c):=rfl
theorem qtk{c:wi}:(AV.ip c).flag=true:=rfl
theorem qqt{c:wi}:(AV.ip c).solid=true:=rfl
theorem qou{c:wi}:(AV.ip c).cells= [(AV.ip c)]:=rfl
theorem qqG{k v p:Nat}:(AV.op k v p).strip=(AV.op k v p):=rfl
theorem qtm{k v p:Nat}:(AV.op k v p).flag=true:=rfl
theorem qqv{k v p:Nat}:(AV.op k v p).solid=true:=rfl
theorem qow{k v p:Nat}:(AV.op k v p).cells= [(AV.op k v p)]:=rfl
theorem qiF  :AV.nilp.strip=AV.nilp:=rfl
theorem qkU  :AV.nilp.flag=true:=rfl
theorem qiq  :AV.nilp.solid=true:=rfl
theorem qhE  :AV.nilp.cells= [AV.nilp]:=rfl
theorem qqF  :AV.nl.strip=AV.nl:=rfl
theorem qtl  :AV.nl.flag=true:=rfl
theorem qqu  :AV.nl.solid=true:=rfl
theorem qov  :AV.nl.cells= [AV.nl]:=rfl
theorem qqC{f:Fn}{a c:wi}:(AV.fn f a c).strip=(AV.fn f a c):=rfl
theorem qti{f:Fn}{a c:wi}:(AV.fn f a c).flag=true:=rfl
theorem qqs{f:Fn}{a c:wi}:(AV.fn f a c).solid=true:=rfl
theorem qos{f:Fn}{a c:wi}:(AV.fn f a c).cells= [(AV.fn f a c)]:=rfl
theorem qm4{k:Nat}:(AV.yld k).strip=(AV.yld k):=rfl
theorem qoV{k:Nat}:(AV.yld k).flag=true:=rfl
theorem qmM{k:Nat}:(AV.yld k).solid=true:=rfl
theorem qkp{k:Nat}:(AV.yld k).cells= [(AV.yld k)]:=rfl
theorem qf9  :AV.nilfn.strip=AV.nilfn:=rfl
theorem qhS  :AV.nilfn.flag=true:=rfl
theorem qf0  :AV.nilfn.solid=true:=rfl
theorem qfy  :AV.nilfn.cells= [AV.nilfn]:=rfl
theorem qmX  :AV.ifc.strip=AV.ifc:=rfl
theorem qoO  :AV.ifc.flag=true:=rfl
theorem qmG  :AV.ifc.solid=true:=rfl
theorem qki  :AV.ifc.cells= [AV.ifc]:=rfl
theorem qga  :AV.nilif.strip=AV.nilif:=rfl
theorem qhT  :AV.nilif.flag=true:=rfl
theorem qf1  :AV.nilif.solid=true:=rfl
theorem qfz  :AV.nilif.cells= [AV.nilif]:=rfl
theorem qgd:AV.undef.strip=AV.undef:=rfl
theorem qhW:AV.undef.flag=true:=rfl
theorem qkh{c:wi}:(AV.agg c).cells=c:=rfl
theorem qqD{g:Bool}{v:AV}:(AV.gd g v).strip=v:=rfl
theorem qtj{g:Bool}{v:AV}:(AV.gd g v).flag=g:=rfl
theorem qGG{P:Program}{b:Nat}{r:List RO}{K:Nx}{t:wi}{h:wh}{d:Nat} {x:X}:opsA P b (⟨some d,none,.mv,[x]⟩::r) K t h=((ev t x).flag=true∧opsA P b r K (jv d t ((ev t x).strip)) h):=by simp only[opsA,stepO,stepA,R.kd,evs,flags,strips,qY,okP,okL,valP,valL,and_true,true_and,and_assoc]
theorem qEu{P:Program}{b:Nat}{r:List RO}{K:Nx}{t:wi}{h:wh}{d:Nat} {x:X}{j:Nat}{u:Bool}:opsA P b (⟨some d,some (j,u),.mv,[x]⟩::r) K t h=(zP (zU j t)=true∧(qS (zU j t) u=true->(ev t x).flag=true)∧opsA P b r K (jv d t (.gd (qS (zU j t) u) ((ev t x).strip))) h):=by simp only[opsA,stepO,kO,R.kd,evs,flags,strips,qY,okP,okL,valP,valL,and_true,true_and,and_assoc]
theorem qEh{P:Program}{b:Nat}{r:List RO}{K:Nx}{t:wi}{h:wh}{d:Nat}{q:BinOp}{x y:X}:opsA P b (⟨some d,none,.bin q,[x,y]⟩::r) K t h=((ev t x).flag=true∧(ev t y).flag=true∧UN q (ev t x).strip (ev t y).strip∧opsA P b r K (jv d t (UJ q (ev t x).strip (ev t y).strip)) h):=by simp only[opsA,stepO,stepA,R.kd,evs,flags,strips,qY,okP,okL,valP,valL,and_true,true_and,and_assoc]
theorem qB6{P:Program}{b:Nat}{r:List RO}{K:Nx}{t:wi}{h:wh}{d:Nat}{q:BinOp}{x y:X}{j:Nat}{u:Bool}:opsA P b (⟨some d,some (j,u),.bin q,[x,y]⟩::r) K t h=(zP (zU j t)=true∧(qS (zU j t) u=true->(ev t x).flag=true∧(ev t y).flag=true∧UN q (ev t x).strip (ev t y).strip)∧opsA P b r K (jv d t (.gd (qS (zU j t) u) (UJ q (ev t x).strip (ev t y).strip))) h):=by simp only[opsA,stepO,kO,R.kd,evs,flags,strips,qY,okP,okL,valP,valL,and_true,true_and,and_assoc]
theorem qGH{P:Program}{b:Nat}{r:List RO}{K:Nx}{t:wi}{h:wh}{d:Nat}{q:UnOp}{xs:List X}:opsA P b (⟨some d,none,.un q,xs⟩::r) K t h=(flags (evs t xs)∧okP (.un q) (strips (evs t xs))∧opsA P b r K (jv d t (valP (.un q) (strips (evs t xs)))) h):=by simp only[opsA,stepO,stepA,R.kd,qY]
theorem qEv{P:Program}{b:Nat}{r:List RO}{K:Nx}{t:wi}{h:wh}{d:Nat}{q:UnOp}{xs:List X}{j:Nat}{u:Bool}:opsA P b (⟨some d,some (j,u),.un q,xs⟩::r) K t h=(zP (zU j t)=true∧(qS (zU j t) u=true->flags (evs t xs)∧okP (.un q) (strips (evs t xs)))∧opsA P b r K (jv d t (.gd (qS (zU j t) u) (valP (.un q) (strips (evs t xs))))) h):=by simp only[opsA,stepO,kO,R.kd,qY]
theorem qBC{P:Program}{b:Nat}{r:List RO}{K:Nx}{t:wi}{h:wh}{d:Nat}{k:IntKind}{xs:List X}:opsA P b (⟨some d,none,.conv k,xs⟩::r) K t h=(flags (evs t xs)∧okP (.conv k) (strips (evs t xs))∧opsA P b r K (jv d t (valP (.conv k) (strips (evs t xs)))) h):=by simp only[opsA,stepO,stepA,R.kd,qY]
theorem qvl{P:Program}{b:Nat}{r:List RO}{K:Nx}{t:wi}{h:wh}{d:Nat}{k:NK}{n:Bool}{xs:List X}:opsA P b (⟨some d,none,.isnil k n,xs⟩::r) K t h=(flags (evs t xs)∧okP (.isnil k n) (strips (evs t xs))∧opsA P b r K (jv d t (valP (.isnil k n) (strips (evs t xs)))) h):=by simp only[opsA,stepO,stepA,R.kd,qY]
theorem qEe{P:Program}{b:Nat}{r:List RO}{K:Nx}{t:wi}{h:wh}{d:Nat}{ks:List AK}{n:Bool}{xs:List X}:opsA P b (⟨some d,none,.aeq ks n,xs⟩::r) K t h=(flags (evs t xs)∧okP (.aeq ks n) (strips (evs t xs))∧opsA P b r K (jv d t (valP (.aeq ks n) (strips (evs t xs)))) h):=by simp only[opsA,stepO,stepA,R.kd,qY]
theorem qEj{P:Program}{b:Nat}{r:List RO}{K:Nx}{t:wi}{h:wh}{d:Nat}{i:Nat}{xs:List X}:opsA P b (⟨some d,none,.ext i,xs⟩::r) K t h=(flags (evs t xs)∧okP (.ext i) (strips (evs t xs))∧opsA P b r K (jv d t (valP (.ext i) (strips (evs t xs)))) h):=by simp only[opsA,stepO,stepA,R.kd,qY]
theorem qvj{P:Program}{b:Nat}{r:List RO}{K:Nx}{t:wi}{h:wh}{d:Nat}{z:wi}{ps:List (Nat×Nat)}{xs:List X}:opsA P b (⟨some d,none,.build z ps,xs⟩::r) K t h=(flags (evs t xs)∧okP (.build z ps) (strips (evs t xs))∧opsA P b r K (jv d t (valP (.build z ps) (strips (evs t xs)))) h):=by simp only[opsA,stepO,stepA,R.kd,qY]
theorem qq0{P:Program}{b:Nat}{r:List RO}{K:Nx}{t:wi}{h:wh}{d:Nat}{z:wi}{ps:List (Nat×Nat)}{xs:List X}{j:Nat}{u:Bool}:opsA P b (⟨some d,some (j,u),.build z ps,xs⟩::r) K t h=(zP (zU j t)=true∧(qS (zU j t) u=true->flags (evs t xs)∧okP (.build z ps) (strips (evs t xs)))∧opsA P b r K (jv d t (.gd (qS (zU j t) u) (valP (.build z ps) (strips (evs t xs))))) h):=by simp only[opsA,stepO,kO,R.kd,qY]
theorem qBG{P:Program}{b:Nat}{r:List RO}{K:Nx}{t:wi}{h:wh}{d:Nat}{f:Fn}{n:Nat}{xs:List X}:opsA P b (⟨some d,none,.mkfn f n,xs⟩::r) K t h=(flags (evs t xs)∧okP (.mkfn f n) (strips (evs t xs))∧opsA P b r K (jv d t (valP (.mkfn f n) (strips (evs t xs)))) h):=by simp only[opsA,stepO,stepA,R.kd,qY]
theorem qBK{P:Program}{b:Nat}{r:List RO}{K:Nx}{t:wi}{h:wh}{d:Nat} {xs:List X}:opsA P b (⟨some d,none,.slen,xs⟩::r) K t h=(flags (evs t xs)∧okP (.slen) (strips (evs t xs))∧opsA P b r K (jv d t (valP (.slen) (strips (evs t xs)))) h):=by simp only[opsA,stepO,stepA,R.kd,qY]
theorem qvv{P:Program}{b:Nat}{r:List RO}{K:Nx}{t:wi}{h:wh}{d:Nat} {xs:List X}{j:Nat}{u:Bool}:opsA P b (⟨some d,some (j,u),.slen,xs⟩::r) K t h=(zP (zU j t)=true∧(qS (zU j t) u=true->flags (evs t xs)∧okP (.slen) (strips (evs t xs)))∧opsA P b r K (jv d t (.gd (qS (zU j t) u) (valP (.slen) (strips (evs t xs))))) h):=by simp only[opsA,stepO,kO,R.kd,qY]
theorem qBJ{P:Program}{b:Nat}{r:List RO}{K:Nx}{t:wi}{h:wh}{d:Nat} {xs:List X}:opsA P b (⟨some d,none,.sidx,xs⟩::r) K t h=(flags (evs t xs)∧okP (.sidx) (strips (evs t xs))∧opsA P b r K (jv d t (valP (.sidx) (strips (evs t xs)))) h):=by simp only[opsA,stepO,stepA,R.kd,qY]
theorem qBy{P:Program}{b:Nat}{r:List RO}{K:Nx}{t:wi}{h:wh}{d n1 n2:Nat}{n3:Option Nat} {xs:List X}:opsA P b (⟨some d,none,(.aidx n1 n2 n3),xs⟩::r) K t h=(flags (evs t xs)∧okP (.aidx n1 n2 n3) (strips (evs t xs))∧opsA P b r K (jv d t (valP (.aidx n1 n2 n3) (strips (evs t xs)))) h):=by simp only[opsA,stepO,stepA,R.kd,qY]
theorem qvu{P:Program}{b:Nat}{r:List RO}{K:Nx}{t:wi}{h:wh}{d:Nat} {xs:List X}{j:Nat}{u:Bool}:opsA P b (⟨some d,some (j,u),.sidx,xs⟩::r) K t h=(zP (zU j t)=true∧(qS (zU j t) u=true->flags (evs t xs)∧okP (.sidx) (strips (evs t xs)))∧opsA P b r K (jv d t (.gd (qS (zU j t) u) (valP (.sidx) (strips (evs t xs))))) h):=by simp only[opsA,stepO,kO,R.kd,qY]
theorem qBL{P:Program}{b:Nat}{r:List RO}{K:Nx}{t:wi}{h:wh}{d:Nat}{lo hi:Bool}{xs:List X}:opsA P b (⟨some d,none,.sslc lo hi,xs⟩::r) K t h=(flags (evs t xs)∧okP (.sslc lo hi) (strips (evs t xs))∧opsA P b r K (jv d t (valP (.sslc lo hi) (strips (evs t xs)))) h):=by simp only[opsA,stepO,stepA,R.kd,qY]
theorem qvw{P:Program}{b:Nat}{r:List RO}{K:Nx}{t:wi}{h:wh}{d:Nat}{lo hi:Bool}{xs:List X}{j:Nat}{u:Bool}:opsA P b (⟨some d,some (j,u),.sslc lo hi,xs⟩::r) K t h=(zP (zU j t)=true∧(qS (zU j t) u=true->flags (evs t xs)∧okP (.sslc lo hi) (strips (evs t xs)))∧opsA P b r K (jv d t (.gd (qS (zU j t) u) (valP (.sslc lo hi) (strips (evs t xs))))) h):=by simp only[opsA,stepO,kO,R.kd,qY]
theorem qGF{P:Program}{b:Nat}{r:List RO}{K:Nx}{t:wi}{h:wh}{d:Nat}{m:Bool}{xs:List X}:opsA P b (⟨some d,none,.mm m,xs⟩::r) K t h=(flags (evs t xs)∧okP (.mm m) (strips (evs t xs))∧opsA P b r K (jv d t (valP (.mm m) (strips (evs t xs)))) h):=by simp only[opsA,stepO,stepA,R.kd,qY]
theorem qEk{P:Program}{b:Nat}{r:List RO}{K:Nx}{t:wi}{h:wh}{d:Nat} {xs:List X}:opsA P b (⟨some d,none,.len,xs⟩::r) K t h=(flags (evs t xs)∧okL h (.len) (strips (evs t xs))∧opsA P b r K (jv d t (valL h (.len) (strips (evs t xs)))) h):=by simp only[opsA,stepO,stepA,R.kd,qY]
theorem qB7{P:Program}{b:Nat}{r:List RO}{K:Nx}{t:wi}{h:wh}{d:Nat} {xs:List X}{j:Nat}{u:Bool}:opsA P b (⟨some d,some (j,u),.len,xs⟩::r) K t h=(zP (zU j t)=true∧(qS (zU j t) u=true->flags (evs t xs)∧okL h (.len) (strips (evs t xs)))∧opsA P b r K (jv d t (.gd (qS (zU j t) u) (valL h (.len) (strips (evs t xs))))) h):=by simp only[opsA,stepO,kO,R.kd,qY]
theorem qBE{P:Program}{b:Nat}{r:List RO}{K:Nx}{t:wi}{h:wh}{d:Nat}{z:Nat}{xs:List X}:opsA P b (⟨some d,none,.idxA z,xs⟩::r) K t h=(flags (evs t xs)∧okL h (.idxA z) (strips (evs t xs))∧opsA P b r K (jv d t (valL h (.idxA z) (strips (evs t xs)))) h):=by simp only[opsA,stepO,stepA,R.kd,qY]
theorem qvr{P:Program}{b:Nat}{r:List RO}{K:Nx}{t:wi}{h:wh}{d:Nat}{z:Nat}{xs:List X}{j:Nat}{u:Bool}:opsA P b (⟨some d,some (j,u),.idxA z,xs⟩::r) K t h=(zP (zU j t)=true∧(qS (zU j t) u=true->flags (evs t xs)∧okL h (.idxA z) (strips (evs t xs)))∧opsA P b r K (jv d t (.gd (qS (zU j t) u) (valL h (.idxA z) (strips (evs t xs))))) h):=by simp only[opsA,stepO,kO,R.kd,qY]
theorem qBD{P:Program}{b:Nat}{r:List RO}{K:Nx}{t:wi}{h:wh}{d:Nat}{p:Nat}{xs:List X}:opsA P b (⟨some d,none,.fldA p,xs⟩::r) K t h=(flags (evs t xs)∧okL h (.fldA p) (strips (evs t xs))∧opsA P b r K (jv d t (valL h (.fldA p) (strips (evs t xs)))) h):=by simp only[opsA,stepO,stepA,R.kd,qY]
theorem qvq{P:Program}{b:Nat}{r:List RO}{K:Nx}{t:wi}{h:wh}{d:Nat}{p:Nat}{xs:List X}{j:Nat}{u:Bool}:opsA P b (⟨some d,some (j,u),.fldA p,xs⟩::r) K t h=(zP (zU j t)=true∧(qS (zU j t) u=true->flags (evs t xs)∧okL h (.fldA p) (strips (evs t xs)))∧opsA P b r K (jv d t (.gd (qS (zU j t) u) (valL h (.fldA p) (strips (evs t xs))))) h):=by simp only[opsA,stepO,kO,R.kd,qY]
theorem qBF{P:Program}{b:Nat}{r:List RO}{K:Nx}{t:wi}{h:wh}{d:Nat}{n:Option Nat}{xs:List X}:opsA P b (⟨some d,none,.load n,xs⟩::r) K t h=(flags (evs t xs)∧okL h (.load n) (strips (evs t xs))∧opsA P b r K (jv d t (valL h (.load n) (strips (evs t xs)))) h):=by simp only[opsA,stepO,stepA,R.kd,qY]
theorem qvs{P:Program}{b:Nat}{r:List RO}{K:Nx}{t:wi}{h:wh}{d:Nat}{n:Option Nat}{xs:List X}{j:Nat}{u:Bool}:opsA P b (⟨some d,some (j,u),.load n,xs⟩::r) K t h=(zP (zU j t)=true∧(qS (zU j t) u=true->flags (evs t xs)∧okL h (.load n) (strips (evs t xs)))∧opsA P b r K (jv d t (.gd (qS (zU j t) u) (valL h (.load n) (strips (evs t xs))))) h):=by simp only[opsA,stepO,kO,R.kd,qY]
theorem qqZ{P:Program}{b:Nat}{r:List RO}{K:Nx}{t:wi}{h:wh}{d:Nat} {xs:List X}:opsA P b (⟨some d,none,.nilchk,xs⟩::r) K t h=(flags (evs t xs)∧okL h (.nilchk) (strips (evs t xs))∧opsA P b r K (jv d t (valL h (.nilchk) (strips (evs t xs)))) h):=by simp only[opsA,stepO,stepA,R.kd,qY]
theorem qnF{P:Program}{b:Nat}{r:List RO}{K:Nx}{t:wi}{h:wh}{d:Nat} {xs:List X}{j:Nat}{u:Bool}:opsA P b (⟨some d,some (j,u),.nilchk,xs⟩::r) K t h=(zP (zU j t)=true∧(qS (zU j t) u=true->flags (evs t xs)∧okL h (.nilchk) (strips (evs t xs)))∧opsA P b r K (jv d t (.gd (qS (zU j t) u) (valL h (.nilchk) (strips (evs t xs))))) h):=by simp only[opsA,stepO,kO,R.kd,qY]
theorem qEn{P:Program}{b:Nat}{r:List RO}{K:Nx}{t:wi}{h:wh}{d:Nat}{z:Nat}{lo hi:Bool}{xs:List X}:opsA P b (⟨some d,none,.slc z lo hi,xs⟩::r) K t h=(flags (evs t xs)∧okL h (.slc z lo hi) (strips (evs t xs))∧opsA P b r K (jv d t (valL h (.slc z lo hi) (strips (evs t xs)))) h):=by simp only[opsA,stepO,stepA,R.kd,qY]
theorem qBI{P:Program}{b:Nat}{r:List RO}{K:Nx}{t:wi}{h:wh}{d:Nat}{c x y:X}:opsA P b (⟨some d,none,.pick,[c,x,y]⟩::r) K t h=(UX (ev t c) (ev t x) (ev t y)∧opsA P b r K (jv d t (kp (ev t c) (ev t x) (ev t y))) h):=by simp only[opsA,stepO,stepA,R.kd,qY,evs]
theorem qvt{P:Program}{b:Nat}{r:List RO}{K:Nx}{t:wi}{h:wh}{d:Nat}{c x y:X}{j:Nat}{u:Bool}:opsA P b (⟨some d,some (j,u),.pick,[c,x,y]⟩::r) K t h=(zP (zU j t)=true∧(qS (zU j t) u=true->UX (ev t c) (ev t x) (ev t y))∧opsA P b r K (jv d t (.gd (qS (zU j t) u) (kp (ev t c) (ev t x) (ev t y)))) h):=by simp only[opsA,stepO,kO,R.kd,qY,evs]
theorem qBH{P:Program}{b:Nat}{r:List RO}{K:Nx}{t:wi}{h:wh}{d:Option Nat}{j z:Nat}{ty:TypeId}{xs:List X}:opsA P b (⟨d,none,.nilo j z ty,xs⟩::r) K t h=(flags (evs t xs)∧effE b h (.nilo j z ty) (strips (evs t xs)) t d (opsA P b r K)):=by simp only[opsA,stepO,stepA,R.kd]
theorem qvi{P:Program}{b:Nat}{r:List RO}{K:Nx}{t:wi}{h:wh}{d:Option Nat}{j:Nat}{ty:TypeId}{z:wi}{xs:List X}:opsA P b (⟨d,none,.alloc j ty z,xs⟩::r) K t h=(flags (evs t xs)∧effE b h (.alloc j ty z) (strips (evs t xs)) t d (opsA P b r K)):=by simp only[opsA,stepO,stepA,R.kd]
theorem qEi{P:Program}{b:Nat}{r:List RO}{K:Nx}{t:wi}{h:wh}{d:Option Nat}{j:Nat}{ty:TypeId}{xs:List X}:opsA P b (⟨d,none,.box j ty,xs⟩::r) K t h=(flags (evs t xs)∧effE b h (.box j ty) (strips (evs t xs)) t d (opsA P b r K)):=by simp only[opsA,stepO,stepA,R.kd]
theorem qvn{P:Program}{b:Nat}{r:List RO}{K:Nx}{t:wi}{h:wh}{d:Option Nat}{n:Nat}{xs:List X}:opsA P b (⟨d,none,.store n,xs⟩::r) K t h=(flags (evs t xs)∧effE b h (.store n) (strips (evs t xs)) t d (opsA P b r K)):=by simp only[opsA,stepO,stepA,R.kd]
theorem qvm{P:Program}{b:Nat}{r:List RO}{K:Nx}{t:wi}{h:wh}{d:Option Nat}{j z m:Nat}{ty:TypeId}{zs:wi}{xs:List X}:opsA P b (⟨d,none,.mkslc j z ty zs m,xs⟩::r) K t h=(flags (evs t xs)∧effE b h (.mkslc j z ty zs m) (strips (evs t xs)) t d (opsA P b r K)):=by simp only[opsA,stepO,stepA,R.kd]
theorem qBA{P:Program}{b:Nat}{r:List RO}{K:Nx}{t:wi}{h:wh}{d:Option Nat}{j z n:Nat}{ty:TypeId}{zs:wi}{ps:List (Nat×Nat)}{xs:List X}:opsA P b (⟨d,none,.bslc j z n ty zs ps,xs⟩::r) K t h=(flags (evs t xs)∧effE b h (.bslc j z n ty zs ps) (strips (evs t xs)) t d (opsA P b r K)):=by simp only[opsA,stepO,stepA,R.kd]
theorem qEf{P:Program}{b:Nat}{r:List RO}{K:Nx}{t:wi}{h:wh}{d:Option Nat}{j z m:Nat}{ty:TypeId}{xs:List X}:opsA P b (⟨d,none,.app j z ty m,xs⟩::r) K t h=(flags (evs t xs)∧effE b h (.app j z ty m) (strips (evs t xs)) t d (opsA P b r K)):=by simp only[opsA,stepO,stepA,R.kd]
theorem qBz{P:Program}{b:Nat}{r:List RO}{K:Nx}{t:wi}{h:wh}{d:Option Nat}{j:Nat}{ty:TypeId}{xs:List X}:opsA P b (⟨d,none,.apps j ty,xs⟩::r) K t h=(flags (evs t xs)∧effE b h (.apps j ty) (strips (evs t xs)) t d (opsA P b r K)):=by simp only[opsA,stepO,stepA,R.kd]
theorem qBB{P:Program}{b:Nat}{r:List RO}{K:Nx}{t:wi}{h:wh}{d:Option Nat}{f:Nat}{p:Bool}{xs:List X}:opsA P b (⟨d,none,.call f p,xs⟩::r) K t h=qj4 P f p (evs t xs) d (opsA P b r K) t h:=by simp only[opsA,stepO,stepA,R.kd]
theorem qvp{P:Program}{b:Nat}{r:List RO}{K:Nx}{t:wi}{h:wh}{d:Option Nat}{f:Nat}{p:Bool}{xs:List X}{j:Nat}{u:Bool}:opsA P b (⟨d,some (j,u),.call f p,xs⟩::r) K t h=(zP (zU j t)=true∧qj5 P f p (qS (zU j t) u) (evs t xs) d (opsA P b r K) t h):=by simp only[opsA,stepO,kO,R.kd]
theorem qvk{P:Program}{b:Nat}{r:List RO}{K:Nx}{t:wi}{h:wh}{d:Option Nat}{xs:List X}:opsA P b (⟨d,none,.callv,xs⟩::r) K t h=(flags (evs t xs)∧qaE P (strips (evs t xs)) d (opsA P b r K) t h):=by simp only[opsA,stepO,stepA,R.kd]
theorem qEl{P:Program}{b:Nat}{K:Nx}{t:wi}{h:wh}:opsA P b [] K t h=K t h:=(rfl)
theorem qtf{t:wi}:evs t []= []:=rfl
theorem qoI{t:wi}{x:X}{r:List X}:evs t (x::r)=ev t x::evs t r:=rfl
theorem qiJ:strips []= []:=rfl
theorem qge{x:AV}{r:wi}:strips (x::r)=x.strip::strips r:=rfl
theorem qkY:flags []=True:=rfl
theorem qhX{x:AV}{r:wi}:flags (x::r)=(x.flag=true∧flags r):=rfl
theorem qjx{k l:IntKind}{a c:Int}:UJ .add (.int k a) (.int l c)= .int k (k.wrap (a+c)):=rfl
theorem qjb{k l:IntKind}{a c:Int}:UN .add (.int k a) (.int l c)=(k=l):=rfl
theorem qjK{k l:IntKind}{a c:Int}:UJ .sub (.int k a) (.int l c)= .int k (k.wrap (a-c)):=rfl
theorem qjo{k l:IntKind}{a c:Int}:UN .sub (.int k a) (.int l c)=(k=l):=rfl
theorem qjE{k l:IntKind}{a c:Int}:UJ .mul (.int k a) (.int l c)= .int k (k.wrap (a*c)):=rfl
theorem qji{k l:IntKind}{a c:Int}:UN .mul (.int k a) (.int l c)=(k=l):=rfl
theorem qjG{k l:IntKind}{a c:Int}:UJ .quo (.int k a) (.int l c)= .int k (k.wrap (a.tdiv c)):=rfl
theorem qjk{k l:IntKind}{a c:Int}:UN .quo (.int k a) (.int l c)=(k=l∧c≠0):=rfl
theorem qjH{k l:IntKind}{a c:Int}:UJ .rem (.int k a) (.int l c)= .int k (a.tmod c):=rfl
theorem qjl{k l:IntKind}{a c:Int}:UN .rem (.int k a) (.int l c)=(k=l∧c≠0):=rfl
theorem qjI{k l:IntKind}{a c:Int}:UJ .shl (.int k a) (.int l c)= .int k (qGl k a c):=rfl
theorem qjm{k l:IntKind}{a c:Int}:UN .shl (.int k a) (.int l c)=(0<=c):=rfl
theorem qjJ{k l:IntKind}{a c:Int}:UJ .shr (.int k a) (.int l c)= .int k (qvM k a c):=rfl
theorem qjn{k l:IntKind}{a c:Int}:UN .shr (.int k a) (.int l c)=(0<=c):=rfl
theorem qjz{k l:IntKind}{a c:Int}:UJ .eql (.int k a) (.int l c)= .bool (decide (a=c)):=rfl
theorem qjd{k l:IntKind}{a c:Int}:UN .eql (.int k a) (.int l c)=(k=l):=rfl
theorem qjF{k l:IntKind}{a c:Int}:UJ .neq (.int k a) (.int l c)= .bool (!decide (a=c)):=rfl
theorem qjj{k l:IntKind}{a c:Int}:UN .neq (.int k a) (.int l c)=(k=l):=rfl
theorem qjD{k l:IntKind}{a c:Int}:UJ .lss (.int k a) (.int l c)= .bool (decide (a<c)):=rfl
theorem qjh{k l:IntKind}{a c:Int}:UN .lss (.int k a) (.int l c)=(k=l):=rfl
theorem qjC{k l:IntKind}{a c:Int}:UJ .leq (.int k a) (.int l c)= .bool (decide (a<=c)):=rfl
theorem qjg{k l:IntKind}{a c:Int}:UN .leq (.int k a) (.int l c)=(k=l):=rfl
theorem qjB{k l:IntKind}{a c:Int}:UJ .gtr (.int k a) (.int l c)= .bool (decide (c<a)):=rfl
theorem qjf{k l:IntKind}{a c:Int}:UN .gtr (.int k a) (.int l c)=(k=l):=rfl
theorem qjA{k l:IntKind}{a c:Int}:UJ .geq (.int k a) (.int l c)= .bool (decide (c<=a)):=rfl
theorem qje{k l:IntKind}{a c:Int}:UN .geq (.int k a) (.int l c)=(k=l):=rfl
theorem qjy{k l:IntKind}{a c:Int}:UJ .and (.int k a) (.int l c)= .int k (qnI k a c):=rfl
theorem qjc{k l:IntKind}{a c:Int}:UN .and (.int k a) (.int l c)=(k=l):=rfl
theorem qn4{k l:IntKind}{a c:Int}:UJ .or (.int k a) (.int l c)= .int k (orK k a c):=rfl
theorem qn3{k l:IntKind}{a c:Int}:UN .or (.int k a) (.int l c)=(k=l):=rfl
theorem qjL{k l:IntKind}{a c:Int}:UJ .xor (.int k a) (.int l c)= .int k (qGR k a c):=rfl
theorem qjp{k l:IntKind}{a c:Int}:UN .xor (.int k a) (.int l c)=(k=l):=rfl
theorem qer{k l:IntKind}{a c:Int}:UJ .andNot (.int k a) (.int l c)= .int k (qse k a c):=rfl
theorem qeq{k l:IntKind}{a c:Int}:UN .andNot (.int k a) (.int l c)=(k=l):=rfl
theorem qjM{s u:List UInt8}:UJ .add (.str s) (.str u)= .str (s++u):=rfl
theorem qjq{s u:List UInt8}:UN .add (.str s) (.str u)=(s.length+u.length<=9223372036854775807):=rfl
theorem qjN{s u:List UInt8}:UJ .eql (.str s) (.str u)= .bool (decide (s=u)):=rfl
theorem qjr{s u:List UInt8}:UN .eql (.str s) (.str u)=True:=rfl
theorem qjS{s u:List UInt8}:UJ .neq (.str s) (.str u)= .bool (!decide (s=u)):=rfl
theorem qjw{s u:List UInt8}:UN .neq (.str s) (.str u)=True:=rfl
theorem qjR{s u:List UInt8}:UJ .lss (.str s) (.str u)= .bool (Op.bytesLess s u):=rfl
theorem qjv{s u:List UInt8}:UN .lss (.str s) (.str u)=True:=rfl
theorem qjQ{s u:List UInt8}:UJ .leq (.str s) (.str u)= .bool (Op.bytesLess s u||decide (s=u)):=rfl
theorem qju{s u:List UInt8}:UN .leq (.str s) (.str u)=True:=rfl
theorem qjP{s u:List UInt8}:UJ .gtr (.str s) (.str u)= .bool (!(Op.bytesLess s u||decide (s=u))):=rfl
theorem qjt{s u:List UInt8}:UN .gtr (.str s) (.str u)=True:=rfl
theorem qjO{s u:List UInt8}:UJ .geq (.str s) (.str u)= .bool (!Op.bytesLess s u):=rfl
theorem qjs{s u:List UInt8}:UN .geq (.str s) (.str u)=True:=rfl
theorem qno{n p q:Bool}:valP (.bool n) [.bool p,.bool q]= .bool (n !=(p==q)):=rfl
theorem qpD{n p q:Bool}:okP (.bool n) [.bool p,.bool q]=True:=rfl
theorem qqW{p:Bool}:valP (.un .not) [.bool p]= .bool (!p):=rfl
theorem que{p:Bool}:okP (.un .not) [.bool p]=True:=rfl
theorem qqV{k:IntKind}{n:Int}:valP (.un .neg) [.int k n]= .int k (k.wrap (0-n)):=rfl
theorem qud{k:IntKind}{n:Int}:okP (.un .neg) [.int k n]=True:=rfl
theorem qnp{k l:IntKind}{n:Int}:valP (.conv k) [.int l n]= .int k (k.wrap n):=rfl
theorem qpE{k l:IntKind}{n:Int}:okP (.conv k) [.int l n]=True:=rfl
theorem qcP{n:Bool}{x:AV}:valP (.isnil .ptr n) [x]= .bool (n !=(zI .ptr x).getD false):=rfl
theorem qdH{n:Bool}{x:AV}:okP (.isnil .ptr n) [x]=((zI .ptr x).isSome=true):=rfl
theorem qcC{n:Bool}{x:AV}:valP (.isnil .func n) [x]= .bool (n !=(zI .func x).getD false):=rfl
theorem qcL{n:Bool}{x:AV}:okP (.isnil .func n) [x]=((zI .func x).isSome=true):=rfl
theorem qbZ{n:Bool}{x:AV}:valP (.isnil .iface n) [x]= .bool (n !=(zI .iface x).getD false):=rfl
theorem qcx{n:Bool}{x:AV}:okP (.isnil .iface n) [x]=((zI .iface x).isSome=true):=rfl
theorem qba{n:Bool}{m:Nat}{f:Nat->wi}:valP (.isnil .slice n) [.sl m f]=if m=0 then .anyb else .bool (n !=false):=rfl
theorem qeR{n:Bool}{m:Nat}{f:Nat->wi}:okP (.isnil .slice n) [.sl m f]=True:=rfl
theorem qd9{n:Bool}:valP (.isnil .slice n) [.nl]= .bool (n !=true):=rfl
theorem qeQ{n:Bool}:okP (.isnil .slice n) [.nl]=True:=by simp[okP,zI]
theorem qhG(A B:Nx)(t:wi)(h:wh):qfD .anyb A B t h=(A t h∧B t h):=rfl
theorem qiA:AV.strip .anyb= .anyb:=rfl
theorem qkP:AV.flag .anyb=true:=rfl
theorem qim:AV.solid .anyb=true:=rfl
theorem qhA:AV.cells .anyb= [.anyb]:=rfl
theorem qlz:zI .ptr .nilp=some true:=rfl
theorem qh4:zI .func .nilfn=some true:=rfl
theorem qh5:zI .iface .nilif=some true:=rfl
theorem qt4:zI .slice .nl=some true:=rfl
theorem qt3{c:wi}:zI .ptr (.ip c)=some false:=rfl
theorem qt2{f:Fn}{a c:wi}:zI .func (.fn f a c)=some false:=rfl
theorem qpq:zI .iface .ifc=some false:=rfl
theorem qqS{ks:List AK}{n:Bool}{x y:wi}:valP (.aeq ks n) [.agg x,.agg y]= .bool (n !=(zO ks x y).getD false):=rfl
theorem qua{ks:List AK}{n:Bool}{x y:wi}:okP (.aeq ks n) [.agg x,.agg y]=((zO ks x y).isSome=true):=rfl
theorem qqU{p:Nat}{n:Option Nat}{c:wi}:valP (.fld p n) [.agg c]=cut c p n:=rfl
theorem quc{p:Nat}{n:Option Nat}{c:wi}:okP (.fld p n) [.agg c]=kv c p n:=rfl
theorem qs0{p:Nat}{c:wi}:kv c p none=(p<c.length):=rfl
theorem qs1{p n:Nat}{c:wi}:kv c p (some n)=(p+n<=c.length):=rfl
theorem qqT{i:Nat}{c:wi}:valP (.ext i) [.tup c]=(c[i]?).getD .undef:=rfl
theorem qub{i:Nat}{c:wi}:okP (.ext i) [.tup c]=(i<c.length):=rfl
theorem qiV{z:wi}{ps:List (Nat×Nat)}{vs:wi}:valP (.build z ps) vs= .agg (UR z ps vs):=by cases vs<;>rfl
theorem qlJ{z:wi}{ps:List (Nat×Nat)}{vs:wi}:okP (.build z ps) vs=UE z.length ps vs:=by cases vs<;>rfl
theorem qhP{n:Nat}:UE n [] []=True:=rfl
theorem qfH{m p n:Nat}{ps:List (Nat×Nat)}{v:AV}{vs:wi}:UE m ((p,n)::ps) (v::vs)=(v.solid=true∧v.cells.length=n∧p+n<=m∧UE m ps vs):=rfl
theorem qkM{z:wi}{ps:List (Nat×Nat)}:UR z ps []=z:=by cases ps<;>rfl
theorem qhO{z:wi}{p n:Nat}{ps:List (Nat×Nat)}{v:AV}{vs:wi}:UR z ((p,n)::ps) (v::vs)=UR (z.take p++v.cells++z.drop (p+n)) ps vs:=rfl
theorem qnv{f:Fn}{n:Nat}{vs:wi}:valP (.mkfn f n) vs= .fn f (vs.take n) (vs.drop n):=by cases vs<;>rfl
theorem qpH{f:Fn}{n:Nat}{vs:wi}:okP (.mkfn f n) vs=(n<=vs.length):=by cases vs<;>rfl
theorem qnw{s:List UInt8}{k:IntKind}{i:Int}:valP .sidx [.str s,.int k i]= .int .u8 ((s[i.toNat]?).getD 0).toNat:=rfl
theorem qnn{cs:wi}{k:IntKind}{i:Int}{n1 n2:Nat}{n3:Option Nat}:valP (.aidx n1 n2 n3) [.agg cs,.int k i]=cut cs (i.toNat*n2) n3:=rfl
theorem qpC{cs:wi}{k:IntKind}{i:Int}{n1 n2:Nat}{n3:Option Nat}:okP (.aidx n1 n2 n3) [.agg cs,.int k i]=((0<=i∧i<n1)∧kv cs (i.toNat*n2) n3):=rfl
theorem qpI{s:List UInt8}{k:IntKind}{i:Int}:okP .sidx [.str s,.int k i]=(0<=i∧i<s.length):=rfl
theorem qiX{s:List UInt8}{k m:IntKind}{a c:Int}:valP (.sslc true true) [.str s,.int k a,.int m c]= .str ((s.drop (a:Int).toNat).take ((c:Int).toNat-(a:Int).toNat)):=by simp[valP,loB,hiB]
theorem qlL{s:List UInt8}{k m:IntKind}{a c:Int}:okP (.sslc true true) [.str s,.int k a,.int m c]=(0<=(a:Int)∧(a:Int)<=c∧c<=(s.length:Int)):=by simp[okP,loB,hiB,qcs]
theorem qnz{s:List UInt8}{k:IntKind}{a:Int}:valP (.sslc true false) [.str s,.int k a]= .str ((s.drop (a:Int).toNat).take (((s.length:Int):Int).toNat-(a:Int).toNat)):=by simp[valP,loB,hiB]
theorem qpL{s:List UInt8}{k:IntKind}{a:Int}:okP (.sslc true false) [.str s,.int k a]=(0<=(a:Int)∧(a:Int)<=(s.length:Int)∧(s.length:Int)<=(s.length:Int)):=by simp[okP,loB,hiB,qcs]
theorem qnl{g:wh}{z w v y p n:Nat}{k:IntKind}{a:Int}:valL g (.slc z true false) [.osl w v y p n,.int k a]= .osl w v y (p+(a:Int).toNat*y) (((n:Int):Int).toNat-(a:Int).toNat):=by simp[valL,loB,hiB]
theorem qpA{g:wh}{z w v y p n:Nat}{k:IntKind}{a:Int}:okL g (.slc z true false) [.osl w v y p n,.int k a]=((0<=(a:Int)∧(a:Int)<=(n:Int)∧(n:Int)<=(n:Int))∧y=z∧qH g w v=true∧((a:Int)=0∨(a:Int)<n)):=by simp[okL,loB,hiB,qcs,and_assoc]
theorem qny{s:List UInt8}{k:IntKind}{c:Int}:valP (.sslc false true) [.str s,.int k c]= .str ((s.drop (0:Int).toNat).take ((c:Int).toNat-(0:Int).toNat)):=by simp[valP,loB,hiB]
theorem qpK{s:List UInt8}{k:IntKind}{c:Int}:okP (.sslc false true) [.str s,.int k c]=(0<=(0:Int)∧(0:Int)<=c∧c<=(s.length:Int)):=by simp[okP,loB,hiB,qcs]
theorem qnm{g:wh}{z n:Nat}{f:Nat->wi}{k:IntKind}{c:Int}:valL g (.slc z false true) [.sl n f,.int k c]= .sl ((c:Int).toNat-(0:Int).toNat) (λi=>f ((0:Int).toNat+i)):=by simp[valL,loB,hiB]
theorem qpB{g:wh}{z n:Nat}{f:Nat->wi}{k:IntKind}{c:Int}:okL g (.slc z false true) [.sl n f,.int k c]=((0<=(0:Int)∧(0:Int)<=c∧c<=(n:Int))∧(0<n->(f 0).length=z)):=by simp[okL,loB,hiB,qcs,and_assoc]
theorem qnk{g:wh}{z w v y p n:Nat}{k:IntKind}{c:Int}:valL g (.slc z false true) [.osl w v y p n,.int k c]= .osl w v y (p+(0:Int).toNat*y) ((c:Int).toNat-(0:Int).toNat):=by simp[valL,loB,hiB]
theorem qpz{g:wh}{z w v y p n:Nat}{k:IntKind}{c:Int}:okL g (.slc z false true) [.osl w v y p n,.int k c]=((0<=(0:Int)∧(0:Int)<=c∧c<=(n:Int))∧y=z∧qH g w v=true∧((0:Int)=0∨(0:Int)<n)):=by simp[okL,loB,hiB,qcs,and_assoc]
theorem qnr{k l:IntKind}{a c:Int}:valP (.mm true) [.int k a,.int l c]= .int k (max a c):=rfl
theorem qnt{k l:IntKind}{a c:Int}:valP (.mm false) [.int k a,.int l c]= .int k (min a c):=rfl
theorem qns{k l m:IntKind}{a c e:Int}:valP (.mm true) [.int k a,.int l c,.int m e]= .int k (max (max a c) e):=rfl
theorem qnu{k l m:IntKind}{a c e:Int}:valP (.mm false) [.int k a,.int l c,.int m e]= .int k (min (min a c) e):=rfl
theorem qiT{g:wh}{n:Nat}{f:Nat->wi}:valL g .len [.sl n f]= .int .i64 n:=rfl
theorem qlI{g:wh}{n:Nat}{f:Nat->wi}:okL g .len [.sl n f]=True:=rfl
theorem qiS{g:wh}:valL g .len [.nl]= .int .i64 0:=rfl
theorem qlH{g:wh}:okL g .len [.nl]=True:=rfl
theorem qnx{s:List UInt8}:valP .slen [.str s]= .int .i64 s.length:=rfl
theorem qpJ{s:List UInt8}:okP .slen [.str s]=True:=rfl
theorem qgn{g:wh}{k v z p n:Nat}:valL g .len [.osl k v z p n]= .int .i64 n:=rfl
theorem qia{g:wh}{k v z p n:Nat}:okL g .len [.osl k v z p n]=(qH g k v=true):=rfl
theorem qiQ{g:wh}{z n:Nat}{f:Nat->wi}{k:IntKind}{i:Int}:valL g (.idxA z) [.sl n f,.int k i]= .ip (f i.toNat):=rfl
theorem qlF{g:wh}{z n:Nat}{f:Nat->wi}{k:IntKind}{i:Int}:okL g (.idxA z) [.sl n f,.int k i]=((0<=i∧i<n)∧(f i.toNat).length=z):=rfl
theorem qgm{g:wh}{z q v y p n:Nat}{k:IntKind}{i:Int}:valL g (.idxA z) [.osl q v y p n,.int k i]= .op q v (p+i.toNat*y):=rfl
theorem qh9{g:wh}{z q v y p n:Nat}{k:IntKind}{i:Int}:okL g (.idxA z) [.osl q v y p n,.int k i]=((0<=i∧i<n)∧y=z∧(cellsOf g q v).isSome=true):=rfl
theorem qiM{g:wh}{m z:Nat}{c:wi}{k:IntKind}{i:Int}:valL g (.idxArr m z) [.ip c,.int k i]= .ip ((c.drop (i.toNat*z)).take z):=rfl
theorem qlA{g:wh}{m z:Nat}{c:wi}{k:IntKind}{i:Int}:okL g (.idxArr m z) [.ip c,.int k i]=((0<=i∧i<m)∧c.length=m*z):=rfl
theorem qiN{g:wh}{m z q v p:Nat}{k:IntKind}{i:Int}:valL g (.idxArr m z) [.op q v p,.int k i]= .op q v (p+i.toNat*z):=rfl
theorem qlB{g:wh}{m z q v p:Nat}{k:IntKind}{i:Int}:okL g (.idxArr m z) [.op q v p,.int k i]=((0<=i∧i<m)∧(cellsOf g q v).isSome=true):=rfl
theorem qiO{g:wh}{p:Nat}{c:wi}:valL g (.fldA p) [.ip c]= .ip (c.drop p):=rfl
theorem qlD{g:wh}{p:Nat}{c:wi}:okL g (.fldA p) [.ip c]=(p<c.length):=rfl
theorem qiP{g:wh}{p q v o:Nat}:valL g (.fldA p) [.op q v o]= .op q v (o+p):=rfl
theorem qlE{g:wh}{p q v o:Nat}:okL g (.fldA p) [.op q v o]=((cellsOf g q v).isSome=true):=rfl
theorem qnf{g:wh}{n:Option Nat}{c:wi}:valL g (.load n) [.ip c]=cut c 0 n:=rfl
theorem qpu{g:wh}{n:Option Nat}{c:wi}:okL g (.load n) [.ip c]=kv c 0 n:=rfl
theorem qng{g:wh}{n:Option Nat}{q v p:Nat}:valL g (.load n) [.op q v p]=cut ((cellsOf g q v).getD []) p n:=rfl
theorem qpv{g:wh}{n:Option Nat}{q v p:Nat}:okL g (.load n) [.op q v p]=((cellsOf g q v).isSome=true∧kv ((cellsOf g q v).getD []) p n):=rfl
theorem qni{g:wh}{c:wi}:valL g .nilchk [.ip c]= .ip c:=rfl
theorem qpx{g:wh}{c:wi}:okL g .nilchk [.ip c]=True:=rfl
theorem qnj{g:wh}{q v p:Nat}:valL g .nilchk [.op q v p]= .op q v p:=rfl
theorem qpy{g:wh}{q v p:Nat}:okL g .nilchk [.op q v p]=((cellsOf g q v).isSome=true):=rfl
theorem qnh{g:wh}{f:Fn}{a c:wi}:valL g .nilchk [.fn f a c]= .fn f a c:=rfl
theorem qpw{g:wh}{f:Nat}{a c:wi}:okL g .nilchk [.fn (.func f) a c]=True:=rfl
theorem qoC{c:wi}{p:Nat}:cut c p none=(c[p]?).getD .undef:=rfl
theorem qoD{c:wi}{p n:Nat}:cut c p (some n)= .agg ((c.drop p).take n):=rfl
theorem qpc{b w:Bool}:qS (.bool b) w=(b==w):=rfl
theorem qlh{g b w:Bool}:qS (.gd g (.bool b)) w=(g&&(b==w)):=rfl
theorem qli{b:Bool}:zP (.bool b)=true:=rfl
theorem qhZ{g b:Bool}:zP (.gd g (.bool b))=true:=rfl
theorem qpP{c:Bool}{x y:AV}:UX (.bool c) x y=((c=true->x.flag=true)∧(c=false->y.flag=true)):=rfl
theorem qlW{g c:Bool}{x y:AV}:UX (.gd g (.bool c)) x y=(g=true∧(c=true->x.flag=true)∧(c=false->y.flag=true)):=rfl
theorem qlX{c p q:Bool}:kp (.bool c) (.bool p) (.bool q)= .bool ((c&&p)||(!c&&q)):=rfl
theorem ql3{c p q gc:Bool}:kp (.gd gc (.bool c)) (.bool p) (.bool q)= .bool ((c&&p)||(!c&&q)):=rfl
theorem qlY{c p q gq:Bool}:kp (.bool c) (.bool p) (.gd gq (.bool q))= .bool ((c&&p)||(!c&&q)):=rfl
theorem ql4{c p q gq gc:Bool}:kp (.gd gc (.bool c)) (.bool p) (.gd gq (.bool q))= .bool ((c&&p)||(!c&&q)):=rfl
theorem qlZ{c p q gp:Bool}:kp (.bool c) (.gd gp (.bool p)) (.bool q)= .bool ((c&&p)||(!c&&q)):=rfl
theorem ql5{c p q gp gc:Bool}:kp (.gd gc (.bool c)) (.gd gp (.bool p)) (.bool q)= .bool ((c&&p)||(!c&&q)):=rfl
theorem ql0{c p q gp gq:Bool}:kp (.bool c) (.gd gp (.bool p)) (.gd gq (.bool q))= .bool ((c&&p)||(!c&&q)):=rfl
theorem ql6{c p q gp gq gc:Bool}:kp (.gd gc (.bool c)) (.gd gp (.bool p)) (.gd gq (.bool q))= .bool ((c&&p)||(!c&&q)):=rfl
theorem qxE{P:Program}{b:Nat}{Q:Ex->Nx}{t:wi}{h:wh}:ze P b .skip Q t h=Q .normal t h:=(rfl)
theorem qCJ{P:Program}{b:Nat}{Q:Ex->Nx}{t:wi}{h:wh}{l:List RO}:ze P b (.ops l) Q t h=opsA P b l (Q .normal) t h:=(rfl)
theorem qCL{P:Program}{b:Nat}{Q:Ex->Nx}{t:wi}{h:wh}{x y:C}:ze P b (.seq x y) Q t h=ze P b x (Ex.andThen (ze P b y Q) Q) t h:=(rfl)
theorem qxC{P:Program}{b:Nat}{Q:Ex->Nx}{t:wi}{h:wh}{c:X}{x y:C}:ze P b (.cond c x y) Q t h=qfD (ev t c) (ze P b x Q) (ze P b y Q) t h:=(rfl)
theorem qsH{P:Program}{b:Nat}{Q:Ex->Nx}{t:wi}{h:wh}{i:Nat}{x:C}:ze P b (.block i x) Q t h=ze P b x (Ex.inBlock i Q) t h:=(rfl)
theorem qxD{P:Program}{b:Nat}{Q:Ex->Nx}{t:wi}{h:wh}{i:Nat}:ze P b (.exit i) Q t h=Q (.exit i) t h:=(rfl)
theorem qCK{P:Program}{b:Nat}{Q:Ex->Nx}{t:wi}{h:wh}:ze P b .ret Q t h=Q .ret t h:=(rfl)
theorem qFo{K:Nx}{Q:Ex->Nx}{t:wi}{h:wh}:Ex.andThen K Q .normal t h=K t h:=(rfl)
theorem qFn{K:Nx}{Q:Ex->Nx}{t:wi}{h:wh}{i:Nat}:Ex.andThen K Q (.exit i) t h=Q (.exit i) t h:=(rfl)
theorem qFp{K:Nx}{Q:Ex->Nx}{t:wi}{h:wh}:Ex.andThen K Q .ret t h=Q .ret t h:=(rfl)
theorem qFO{i:Nat}{Q:Ex->Nx}{t:wi}{h:wh}:Ex.inBlock i Q .normal t h=Q .normal t h:=(rfl)
theorem qFP{i:Nat}{Q:Ex->Nx}{t:wi}{h:wh}:Ex.inBlock i Q .ret t h=Q .ret t h:=(rfl)
theorem qFN{i j:Nat}{Q:Ex->Nx}{t:wi}{h:wh}:Ex.inBlock i Q (.exit j) t h=if j=i then Q .normal t h else Q (.exit j) t h:=(rfl)
end AF
end
section
namespace AF
open Go
attribute [go_sem] qBy qnn qpC qz3 qAZ qz4 qA0 qz5 qA1 qz6 qA2 qz7 qA3 qz8 qA4 qz9 qA5 qAa qA6 qtA quO qpa qqf qFD qFC qiB qkQ qin qhB qmY qoP qmH qkj qm2 qoT qmL qkn qqH qtn qqw qox qm0 qoR qmJ qkl qmW qoN qmF qm3 qoU qko qqE qtk qqt qou qqG qtm qqv qow qiF qkU qiq qhE qqF qtl qqu qov qqC qti qqs qos qm4 qoV qmM qkp qf9 qhS qf0 qfy qmX qoO qmG qki qga qhT qf1 qfz qgd qhW qkh qqD qtj qGG qEu qEh qB6 qGH qEv qBC qvl qEe qEj qvj qq0 qBG qBK qvv qBJ qvu qBL qvw qGF qEk qB7 qBE qvr qBD qvq qBF qvs qqZ qnF qEn qBI qvt qBH qvi qEi qvn qvm qBA qEf qBz qBB qvp qvk qEl qtf qoI qiJ qge qkY qhX qjx qjb qjK qjo qjE qji qjG qjk qjH qjl qjI qjm qjJ qjn qjz qjd qjF qjj qjD qjh qjC qjg qjB qjf qjA qje qjy qjc qn4 qn3 qjL qjp qer qeq qjM qjq qjN qjr qjS qjw qjR qjv qjQ qju qjP qjt qjO qjs qno qpD qqW que qqV qud qnp qpE qcP qdH qcC qcL qbZ qcx qba qeR qd9 qeQ qhG qiA qkP qim qhA qlz qh4 qh5 qt4 qt3 qt2 qpq qqS qua qqU quc qs0 qs1 qqT qub qiV qlJ qhP qfH qkM qhO qnv qpH qnw qpI qiX qlL qnz qpL qnl qpA qny qpK qnm qpB qnk qpz qnr qnt qns qnu qiT qlI qiS qlH qnx qpJ qgn qia qiQ qlF qgm qh9 qiM qlA qiN qlB qiO qlD qiP qlE qnf qpu qng qpv qni qpx qnj qpy qnh qpw qoC qoD qpc qlh qli qhZ qpP qlW qlX ql3 qlY ql4 qlZ ql5 ql0 ql6 qxE qCJ qCL qxC qsH qxD qCK qFo qFn qFp qFO qFP qFN
attribute [go_sem] and_true true_and List.drop_zero List.drop_succ_cons List.getElem?_cons_zero List.getElem?_cons_succ Option.getD_some List.length_cons List.length_nil Int.toNat_natCast beq_true imp_self and_self implies_true Bool.and_true Bool.and_false Bool.or_false decide_eq_true_eq Bool.and_eq_true
theorem qms(t:wi)(h:wh):kK t h []=True:=rfl
theorem qmt(n:Nat)(l:List RV)(t:wi)(h:wh):kK t h (.tmp n::l)=kK t h l:=by simp[kK,RV.ok]
theorem qij(t:wi)(h:wh):jm t h []= []:=rfl
theorem qik(n:Nat)(l:List RV)(t:wi)(h:wh):jm t h (.tmp n::l)=zU n t::jm t h l:=rfl
theorem qp8(v:AV):qfT [v]=v:=rfl
theorem qp9(v u:AV)(l:wi):qfT (v::u::l)= .tup (v::u::l):=rfl
theorem qhH(c:Bool)(A B:Nx)(t:wi)(h:wh):qfD (.bool c) A B t h=((c=true->A t h)∧(c=false->B t h)):=rfl
theorem qr{n:Int}(h0: -9223372036854775808<=n)(h1:n<=9223372036854775807):IntKind.i64.wrap n=n:=by
 have e1:(2:Int)^IntKind.bits IntKind.i64=18446744073709551616:=rfl;have e2:(2:Int)^(IntKind.bits IntKind.i64-1)=9223372036854775808:=rfl;have e3:IntKind.signed IntKind.i64=true:=rfl;unfold IntKind.wrap;rw[e1,e2,e3];simp only[Bool.true_and,decide_eq_true_eq];split<;>omega
theorem qdy{rs:List RV}{h0:wh}{K:AV->wh->Prop}{t:wi}{hh tl:wh}{r:AV}(e:hh=h0++tl)(hok:kK t hh rs)(hK:K r h0)(hv:VLe (frz (λk=>decide (h0.length<=k)) hh 8 (qfT (jm t hh rs))) r):
  fnQ rs h0 K .ret t hh:=by subst e;exact qo3 hok hK hv
theorem qk{P:Program}{b:Nat}{x:C}{Q:Ex->Nx}{ι:Type}{t:wi}{h:wh}(T:ι->wi)(H:ι->wh)(inv:ι->Prop)(m:ι->Nat)(i0:ι)(h0:inv i0)(hw:Wk t h (T i0) (H i0))
  (round: ∀i,inv i-> ∀K:Nx,(∀t' h' j,inv j->m j<m i->Wk t' h' (T j) (H j)->K t' h')->ze P b x (Ex.andThen K Q) (T i) (H i)):ze P b (.loop x) Q t h:=by
 refine⟨λn t h=> ∃i,inv i∧m i=n∧t=T i∧h=H i,⟨m i0,T i0,H i0,hw,i0,h0,rfl,rfl,rfl⟩,?_⟩;rintro n t' h' ⟨i,hi,rfl,rfl,rfl⟩;exact round i hi _ (λt'' h'' j hj hlt hw=>⟨m j,T j,H j,hlt,hw,j,hj,rfl,rfl,rfl⟩)
def qP(n:Nat)(l:List (Nat×AV)):wi:=l.foldl (λt p=>jv p.1 t p.2) (List.replicate n .undef)
theorem qbb.nil:qbb [] []:=trivial
theorem qa(a:AV):VLe a .undef=True:=by simp[VLe.undef]
theorem qe(a:AV):VLe a a=True:=by simp[VLe.refl]
theorem qg{k:IntKind}{a b:Int}(h:a=b):VLe (.int k a) (.int k b):=h▸VLe.refl _
theorem qf:qbb [] []=True:=rfl
theorem qc{a b:AV}{l m:wi}:qbb (a::l) (b::m)=(VLe a b∧qbb l m):=rfl
theorem qh{rs:List RV}{h:wh}{t:wi}{r:AV}(hok:kK t h rs)(hv:VLe (frz (λk=>decide (h.length<=k)) h 8 (qfT (jm t h rs))) r):fnQ rs h (λr1 h1=>r1=r∧h1=h) .ret t h:=
 qdy (tl:= []) (by simp) hok ⟨rfl,rfl⟩ hv
theorem qb{rs:List RV}{h tl:wh}{t:wi}{r:AV}(hok:kK t (h++tl) rs)(hv:VLe (frz (λk=>decide (h.length<=k)) (h++tl) 8 (qfT (jm t (h++tl) rs))) r):fnQ rs h (λr1 h1=>r1=r∧h1=h) .ret t (h++tl):=
 qdy rfl hok ⟨rfl,rfl⟩ hv
section
variable {fz : Nat -> Bool} {h : wh} {n : Nat}
theorem frz_int{k:IntKind}{a:Int}:frz fz h (n+1) (.int k a)= .int k a:=rfl
theorem frz_bool{a:Bool}:frz fz h (n+1) (.bool a)= .bool a:=rfl
theorem frz_str{a:List UInt8}:frz fz h (n+1) (.str a)= .str a:=rfl
theorem frz_sl{m:Nat}{f:Nat->wi}:frz fz h (n+1) (.sl m f)= .sl m f:=rfl
theorem frz_nl:frz fz h (n+1) .nl= .nl:=rfl
theorem frz_nilp:frz fz h (n+1) .nilp= .nilp:=rfl
theorem frz_nilfn:frz fz h (n+1) .nilfn= .nilfn:=rfl
theorem frz_ifc:frz fz h (n+1) .ifc= .ifc:=rfl
theorem frz_nilif:frz fz h (n+1) .nilif= .nilif:=rfl
theorem frz_undef:frz fz h (n+1) .undef= .undef:=rfl
theorem frz_ip{cs:wi}:frz fz h (n+1) (.ip cs)= .ip cs:=rfl
theorem frz_agg{cs:wi}:frz fz h (n+1) (.agg cs)= .agg (cs.map (frz fz h n)):=rfl
theorem frz_tup{cs:wi}:frz fz h (n+1) (.tup cs)= .tup (cs.map (frz fz h n)):=rfl
theorem frz_fn{f:Fn}{a b:wi}:frz fz h (n+1) (.fn f a b)= .fn f (a.map (frz fz h n)) (b.map (frz fz h n)):=rfl
theorem frz_gd{g:Bool}{v:AV}:frz fz h (n+1) (.gd g v)= .gd g (frz fz h n v):=rfl
end
attribute [go_sem] frz_int frz_bool frz_str frz_sl frz_nl frz_nilp frz_nilfn frz_ifc frz_nilif frz_undef frz_ip frz_agg frz_tup frz_fn frz_gd if_true if_false List.map_cons List.map_nil
attribute [go_sem] qhH qms qmt qij qik qp8 qp9
end AF
end
section
namespace AF
open Go
section
variable {h : wh} {l : wh} {n k v : Nat} {o : AObj} {ty : TypeId} {cs : wi}
theorem getO_app0:qu h.length (h++l)=l[0]? :=by unfold qu;rw[List.getElem?_append_right (Nat.le_refl _),Nat.sub_self]
theorem getO_app:qu (h.length+n) (h++l)=l[n]? :=by unfold qu;rw[List.getElem?_append_right (by omega),Nat.add_sub_cancel_left]
theorem setO_app0:qt h.length (h++l) o=h++l.set 0 o:=by unfold qt;rw[List.set_append_right _ _ (Nat.le_refl _),Nat.sub_self]
theorem setO_app:qt (h.length+n) (h++l) o=h++l.set n o:=by unfold qt;rw[List.set_append_right _ _ (by omega),Nat.add_sub_cancel_left]
theorem verOf_mem:qo (some (.mem v ty cs))=v:=rfl
theorem verOf_emp:qo (some (.emp v))=v:=rfl
theorem tyOf_mem:qnO (some (.mem v ty cs))=ty:=rfl
theorem site_app:qz (h++l) (h.length+n)=qz l n:=by unfold qz;rw[getO_app];rfl
theorem site_app0:qz (h++l) h.length=qz l 0:=by unfold qz;rw[getO_app0];rfl
theorem site_0_mem{v:Nat}:qz (.mem v ty cs::l) 0=true:=rfl
theorem site_0_emp{v:Nat}:qz (.emp v::l) 0=true:=rfl
theorem site_s:qz (o::l) (n+1)=qz l n:=rfl
theorem cellsOf_app:cellsOf (h++l) (h.length+n) v=cellsOf l n v:=by unfold cellsOf;rw[getO_app];rfl
theorem cellsOf_app0:cellsOf (h++l) h.length v=cellsOf l 0 v:=by unfold cellsOf;rw[getO_app0];rfl
theorem cellsOf_0{w:Nat}:cellsOf (.mem w ty cs::l) 0 v=if w=v then some cs else none:=rfl
theorem cellsOf_s:cellsOf (o::l) (n+1) v=cellsOf l n v:=rfl
theorem liveS_app:qH (h++l) (h.length+n) v=qH l n v:=by unfold qH;rw[getO_app];rfl
theorem liveS_0_mem{w:Nat}:qH (.mem w ty cs::l) 0 v=(w==v):=rfl
theorem liveS_0_emp{w:Nat}:qH (.emp w::l) 0 v=(w==v):=rfl
theorem liveS_s:qH (o::l) (n+1) v=qH l n v:=rfl
theorem tyOk_mem{t:TypeId}:qi0 (some (.mem v t cs)) ty=(t==ty):=rfl
theorem tyOk_emp:qi0 (some (.emp v)) ty=true:=rfl
theorem b_add0{b:Nat}:b+0=b:=rfl
theorem appO_mem{t:TypeId}{ds:wi}{c m:Nat}:qgt (some (.mem k t ds)) ty v c m cs= .mem (v+1) ty (ds.take c++cs):=rfl
theorem appO_emp{c m:Nat}:qgt (some (.emp k)) ty v c m cs=if m=0 then .emp (v+1) else .mem (v+1) ty cs:=rfl
end
section
variable {b : Nat} {h : wh} {t : wi} {d : Option Nat} {nx : wi -> wh -> Prop}
theorem qxV{j sz:Nat}{ty:TypeId}:effE b h (.nilo j sz ty) [] t d nx=(qz h (b+j)=true∧nx (qY t d (.osl (b+j) (qo (qu (b+j) h)+1) sz 0 0)) (qt (b+j) h (.emp (qo (qu (b+j) h)+1)))):=(rfl)
theorem qs8{j:Nat}{ty:TypeId}{z:wi}:effE b h (.alloc j ty z) [] t d nx=(qz h (b+j)=true∧nx (qY t d (.op (b+j) (qo (qu (b+j) h)+1) 0)) (qt (b+j) h (.mem (qo (qu (b+j) h)+1) ty z))):=(rfl)
theorem qC0{j:Nat}{ty:TypeId}{v:AV}:effE b h (.box j ty) [v] t d nx=((qz h (b+j)=true∧v.solid=true)∧nx (qY t d (.op (b+j) (qo (qu (b+j) h)+1) 0)) (qt (b+j) h (.mem (qo (qu (b+j) h)+1) ty v.cells))):=(rfl)
theorem qtb{n k ver off:Nat}{v:AV}:effE b h (.store n) [.op k ver off,v] t d nx=(((cellsOf h k ver).isSome=true∧v.solid=true∧v.cells.length=n∧off+n<=((cellsOf h k ver).getD []).length)∧
  nx (qY t d (.tup [])) (qt k h (.mem ver (qnO (qu k h)) (((cellsOf h k ver).getD []).take off++v.cells++((cellsOf h k ver).getD []).drop (off+n))))):=(rfl)
theorem qta{j sz:Nat}{ty:TypeId}{z:wi}{bytes:Nat}{l c:Int}:effE b h (.mkslc j sz ty z bytes) [.int .i64 l,.int .i64 c] t d nx=((qz h (b+j)=true∧z.length=sz∧0<=l∧l=c∧c*(bytes:Int)<=140737488355328∧c<=140737488355328)∧
   nx (qY t d (.osl (b+j) (qo (qu (b+j) h)+1) sz 0 l.toNat)) (qt (b+j) h (.mem (qo (qu (b+j) h)+1) ty (zM z l.toNat)))):=(rfl)
theorem qxU{j sz n:Nat}{ty:TypeId}{z:wi}{ps:List (Nat×Nat)}{vs:wi}:effE b h (.bslc j sz n ty z ps) vs t d nx=((qz h (b+j)=true∧z.length=sz∧UE (n*sz) ps vs∧n<=140737488355328)∧
   nx (qY t d (.osl (b+j) (qo (qu (b+j) h)+1) sz 0 n)) (qt (b+j) h (.mem (qo (qu (b+j) h)+1) ty (UR (zM z n) ps vs)))):=by
 cases vs<;>rfl
theorem qs9{j sz:Nat}{ty:TypeId}{bytes:Nat}{y:AV}:effE b h (.app j sz ty bytes) [.nl,y] t d nx=(((ql h y).isSome=true∧qz h (b+j)=true∧((ql h y).getD (0,[])).2.length=((ql h y).getD (0,[])).1*sz∧
    (((ql h y).getD (0,[])).1:Int)*bytes<=140737488355328∧(((ql h y).getD (0,[])).1:Int)<=140737488355328)∧
   nx (qY t d (.osl (b+j) (qo (qu (b+j) h)+1) sz 0 ((ql h y).getD (0,[])).1))
    (qt (b+j) h (if ((ql h y).getD (0,[])).1=0 then .emp (qo (qu (b+j) h)+1) else .mem (qo (qu (b+j) h)+1) ty ((ql h y).getD (0,[])).2))):=(rfl)
theorem qCZ{j sz:Nat}{ty:TypeId}{bytes k ver sz' off m:Nat}{y:AV}:effE b h (.app j sz ty bytes) [.osl k ver sz' off m,y] t d nx=(((ql h y).isSome=true∧qH h k ver=true∧qi0 (qu k h) ty=true∧m*sz<=((cellsOf h k ver).getD []).length∧qaz (.osl k ver sz' off m) y=true∧sz'=sz∧off=0∧
    ((ql h y).getD (0,[])).2.length=((ql h y).getD (0,[])).1*sz∧
    ((m+((ql h y).getD (0,[])).1:Nat):Int)*bytes<=140737488355328∧((m+((ql h y).getD (0,[])).1:Nat):Int)<=140737488355328)∧
   nx (qY t d (.osl k (ver+1) sz 0 (m+((ql h y).getD (0,[])).1)))
    (qt k h (qgt (qu k h) ty ver (m*sz) ((ql h y).getD (0,[])).1 ((ql h y).getD (0,[])).2))):=(rfl)
theorem qxT{j:Nat}{ty:TypeId}{s:List UInt8}{k ver sz' off m:Nat}:effE b h (.apps j ty) [.osl k ver sz' off m,.str s] t d nx=((qH h k ver=true∧qi0 (qu k h) ty=true∧m<=((cellsOf h k ver).getD []).length∧sz'=1∧off=0∧((m+s.length:Nat):Int)<=140737488355328)∧
   nx (qY t d (.osl k (ver+1) 1 0 (m+s.length)))
    (qt k h (qgt (qu k h) ty ver m s.length (zQ s)))):=(rfl)
theorem qme{n:Nat}{v:AV}:qY t (some n) v=jv n t v:=rfl
theorem qmd{v:AV}:qY t none v=t:=rfl
theorem qdZ:ql h .nl=some (0,[]):=rfl
theorem qd0{n:Nat}{f:Nat->wi}:ql h (.sl n f)=some (n,(List.range n).flatMap f):=rfl
end
attribute [go_sem] getO_app0 getO_app setO_app0 setO_app verOf_mem verOf_emp tyOf_mem site_app site_app0 site_0_mem site_0_emp site_s cellsOf_app cellsOf_app0 cellsOf_0 cellsOf_s liveS_app liveS_0_mem liveS_0_emp liveS_s tyOk_mem tyOk_emp b_add0 appO_mem appO_emp
attribute [go_sem] qxV qs8 qC0 qtb qta qxU qs9 qCZ qxT qme qmd qdZ qd0
attribute [go_sem] List.set_cons_zero List.set_cons_succ Option.isSome_some List.take_zero List.take_succ_cons List.take_nil List.drop_nil List.nil_append List.cons_append List.append_nil Nat.reduceAdd Nat.reduceMul Nat.reduceSub Nat.reduceLeDiff Nat.reduceEqDiff Nat.zero_add
end AF
end
section
namespace AF
open Go
theorem qL{P:Program}{f:Nat}{p:Bool}{vs:wi}{d:Option Nat}{nx:Nx}{t:wi}{h:wh}{r:AV}(hc:ACalls P f (strips vs) h r h)(hf:flags vs)(hn:nx (qY t d r) h):qj4 P f p vs d nx t h:=
 ⟨hf,r,h,hc,λ_=>rfl,hn⟩
theorem qE{P:Program}{f:Nat}{vs:wi}{d:Option Nat}{nx:Nx}{t:wi}{h h':wh}{r:AV}(hc:ACalls P f (strips vs) h r h')(hf:flags vs)(hn:nx (qY t d r) h'):qj4 P f false vs d nx t h:=
 ⟨hf,r,h',hc,by simp,hn⟩
theorem qQ{P:Program}{f:Nat}{p g:Bool}{vs:wi}{d:Option Nat}{nx:Nx}{t:wi}{h:wh}{r:AV}(hc:g=true->flags vs∧ACalls P f (strips vs) h r h)(hn:nx (qY t d (.gd g r)) h):qj5 P f p g vs d nx t h:=
 ⟨r,h,λe=>⟨(hc e).1,(hc e).2,λ_=>rfl⟩,λ_=>rfl,hn⟩
theorem qDX{t:wi}{h:wh}:kK t h []:=trivial
theorem qDY{t:wi}{h:wh}{n:Nat}{l:List RV}(hl:kK t h l):kK t h (.tmp n::l):=⟨trivial,hl⟩
theorem qtp:flags []:=trivial
theorem qto{a:AV}{l:wi}(h:a.flag=true)(t:flags l):flags (a::l):=⟨h,t⟩
theorem qj{P:Program}{f:Nat}{p:Bool}{vs:wi}{d:Option Nat}{nx:Nx}{t:wi}{h:wh}(r:AV)(hn:nx (qY t d (.gd false r)) h):qj5 P f p false vs d nx t h:=by
 refine⟨r,h,?_,λ_=>rfl,hn⟩;intro e;cases e
theorem qd{a b:Bool}(h:a=b):VLe (.bool a) (.bool b):=h▸VLe.refl _
theorem qr7{a b:List UInt8}(h:a=b):VLe (.str a) (.str b):=h▸VLe.refl _
theorem qvQ{n m:Nat}{f g:Nat->wi}(e:n=m)(h: ∀i,i<m->f i=g i):VLe (.sl n f) (.sl m g):=by
 subst e;intro w σ x hx;have h1:=zZ rfl hx;cases h1 with
 |nilsl=>exact .imm .nilsl
 |sl sz b off cap vals hn hm hb hlt hsz hc h1 hv=>
  refine .imm (.sl sz b off cap vals hn hm hb hlt (λi hi=> ?_) hc h1 (λi j c hi hj=> ?_))
  ·rw[<-h i hi];exact hsz i hi
  ·rw[<-h i hi]at hj;exact hv i j c hi hj
theorem qU{f:Nat->wi}:VLe .nl (.sl 0 f):=by
 intro w σ x hx;have h1:=zZ rfl hx;cases h1 with
 |nl=>exact .imm .nilsl
theorem qr8{l m:wi}(h:qbb l m):VLe (.tup l) (.tup m):=by
 intro w σ x hx;obtain⟨vs,rfl,hl,hv⟩:=qfh hx;refine .tup (by rw[hl,h.length]) (λi c x hc hx=> ?_);obtain⟨a,ha,hle⟩:=h.get i c hc;exact hle w σ x (hv i a x ha hx)
def qrd(v:AV)(h:wh)(m:Option Nat):Prop:=
 match v with
 | .op k ver off=>okL h (.load m) [.op k ver off]
 |_=>False
theorem qii{n:Nat}{m:Option Nat}{l:List RV}{t:wi}{h:wh}:kK t h (.cell n m::l)=(qrd (zU n t) h m∧kK t h l):=rfl
theorem qfY{n:Nat}{m:Option Nat}{l:List RV}{t:wi}{h:wh}:jm t h (.cell n m::l)=valL h (.load m) [zU n t]::jm t h l:=rfl
theorem qke{k ver off:Nat}{h:wh}{m:Option Nat}:qrd (.op k ver off) h m=okL h (.load m) [.op k ver off]:=rfl
attribute [go_sem] qii qfY qke
theorem qfs:zO [] [] []=some true:=rfl
theorem qfr{ks:List AK}{k:IntKind}{a c:Int}{l m:wi}:zO (.int::ks) (.int k a::l) (.int k c::m)=(zO ks l m).map (λy=>decide (a=c)&&y):=by
 simp only[zO,qbz,if_true];cases zO ks l m<;>rfl
theorem qeo{ks:List AK}{a c:Bool}{l m:wi}:zO (.bool::ks) (.bool a::l) (.bool c::m)=(zO ks l m).map (λy=>(a==c)&&y):=by
 simp only[zO,qbz];cases zO ks l m<;>rfl
theorem qft{ks:List AK}{a c:List UInt8}{l m:wi}:zO (.str::ks) (.str a::l) (.str c::m)=(zO ks l m).map (λy=>decide (a=c)&&y):=by
 simp only[zO,qbz];cases zO ks l m<;>rfl
attribute [go_sem] qfs qfr qeo qft Option.map_some Bool.true_bne Bool.false_bne Bool.bne_false
theorem qug{a b:Bool}:(a|| !a&&b)=(a||b):=by cases a<;>simp
theorem qCt{a:Bool}:(a==false)= !a:=by cases a<;>rfl
attribute [go_sem] qug qCt Bool.not_eq_true' Bool.or_eq_true decide_eq_false_iff_not Bool.or_eq_false_iff Bool.not_eq_false' Bool.and_eq_false_imp Bool.true_or Bool.or_true Bool.false_or Bool.true_and Bool.not_true Bool.not_false decide_not Bool.not_not
end AF
end
section
namespace AF
open Go
theorem DV{rs:List RV}{h0 h' tl:wh}{K:AV->wh->Prop}{t:wi}{r:AV}(hok:kK t (h'++tl) rs)(hl:h'.length=h0.length)(hlow: ∀o∈h',o∈h0∨lowO h0.length o)(hK:K r h')
  (hv:VLe (frz (λk=>decide (h0.length<=k)) (h'++tl) 8 (qfT (jm t (h'++tl) rs))) r):fnQ rs h0 K .ret t (h'++tl):=
 ⟨r,h',hK,hok,⟨tl,rfl⟩,hl,hlow,VOut.of 8 hv⟩
theorem zX{rs:List RV}{h0 h' tl:wh}{K:AV->wh->Prop}{t:wi}{r:AV}(hok:kK t (h'++tl) rs)(hl:h'.length=h0.length)(hlow: ∀o∈h',o∈h0∨lowO h0.length o)(hK:K r h')
  (hv:VLe (frz (λk=>decide (h0.length<=k)) (h'++tl) 8 (qfT (jm t (h'++tl) rs))) r):fnQ rs h0 K .normal t (h'++tl):=
 ⟨r,h',hK,hok,⟨tl,rfl⟩,hl,hlow,VOut.of 8 hv⟩
section
variable {k v : Nat} {h l : wh} {o o' : AObj} {ty : TypeId} {cs : wi}
theorem zL(hk:k<h.length):qu k (h++l)=qu k h:=by unfold qu;rw[List.getElem?_append_left hk]
theorem zN(hk:k<h.length):qt k (h++l) o=qt k h o++l:=by unfold qt;rw[List.set_append_left _ _ hk]
theorem qO:(qt k h o).length=h.length:=by unfold qt;simp
theorem jA(hk:k<h.length):qu k (qt k h o)=some o:=by unfold qu qt;rw[List.getElem?_set_self hk]
theorem gL:qt k (qt k h o) o'=qt k h o':=by unfold qt;rw[List.set_set]
theorem qR(e:qu k h=some (.mem v ty cs)):cellsOf h k v=some cs:=by unfold cellsOf;rw[e];simp
theorem zR(e:qu k h=some o):k<h.length:=by unfold qu at e;exact (List.getElem?_eq_some_iff.1 e).1
theorem jt{x:AObj}(hx:x∈qt k h o):x∈h∨x=o:=by
 unfold qt at hx;exact List.mem_or_eq_of_mem_set hx
end
section
variable {k v w n : Nat} {h l : wh} {o o' : AObj} {ty : TypeId} {cs : wi}
theorem qb4(hk:k<h.length):qu k (qt k h o++l)=some o:=by rw[zL (by rw[qO];exact hk),jA hk]
theorem KD(hk:k<h.length):cellsOf (qt k h (.mem w ty cs)++l) k v=if w=v then some cs else none:=by unfold cellsOf;rw[qb4 hk]
theorem qdV(hk:k<h.length):qt k (qt k h o++l) o'=qt k h o'++l:=by rw[zN (by rw[qO];exact hk),gL]
theorem getO_seta:qu (h.length+n) (qt k h o++l)=l[n]? :=by
 have:= @getO_app (qt k h o) l n
 rwa [qO]at this
theorem getO_seta0:qu h.length (qt k h o++l)=l[0]? :=by
 have:= @getO_app0 (qt k h o) l
 rwa [qO]at this
theorem setO_seta:qt (h.length+n) (qt k h o++l) o'=qt k h o++l.set n o':=by
 have:= @setO_app (qt k h o) l n o'
 rwa [qO]at this
theorem setO_seta0:qt h.length (qt k h o++l) o'=qt k h o++l.set 0 o':=by
 have:= @setO_app0 (qt k h o) l o'
 rwa [qO]at this
theorem cellsOf_seta:cellsOf (qt k h o++l) (h.length+n) v=cellsOf l n v:=by unfold cellsOf;rw[getO_seta];rfl
theorem cellsOf_seta0:cellsOf (qt k h o++l) h.length v=cellsOf l 0 v:=by unfold cellsOf;rw[getO_seta0];rfl
theorem site_seta:qz (qt k h o++l) (h.length+n)=qz l n:=by unfold qz;rw[getO_seta];rfl
theorem site_seta0:qz (qt k h o++l) h.length=qz l 0:=by unfold qz;rw[getO_seta0];rfl
end
attribute [go_sem] getO_seta getO_seta0 setO_seta setO_seta0 cellsOf_seta cellsOf_seta0 site_seta site_seta0
theorem jR{k:Nat}{h:wh}{o:AObj}(e:qu k h=some o):qt k h o=h:=by
 unfold qu at e;unfold qt;obtain⟨h1,h2⟩:=List.getElem?_eq_some_iff.1 e;rw[<-h2];exact List.set_getElem_self h1
theorem qp7:qfT []= .tup []:=rfl
attribute [go_sem] qp7
end AF
end
section
namespace AF
open Go
def qE1(c:Option wi)(g:AV->AV)(off:Nat):AV:=
 match c with
 |some cs=> .ip ((cs.drop off).map g)
 |none=> .undef
def qe4(o:Option AObj)(ver sz off len:Nat)(g:AV->AV):AV:=
 match o with
 |some (.mem ve _ cs)=>if ve=ver∧off+len*sz<=cs.length then .sl len (λi=>((cs.drop (off+i*sz)).take sz).map g) else .undef
 |some (.emp ve)=>if ve=ver then .nl else .undef
 |_=> .undef
section
variable {fz : Nat -> Bool} {h : wh} {n k ver sz off len : Nat}
theorem rei_op:rei fz h (n+1) (.op k ver off)=if fz k=true then qE1 (cellsOf h k ver) (rei fz h n) off else .undef:=rfl
theorem rei_osl:rei fz h (n+1) (.osl k ver sz off len)=if fz k=true then qe4 (qu k h) ver sz off len (rei fz h n) else .undef:=rfl
theorem frz_op:frz fz h (n+1) (.op k ver off)=if fz k=true then rei fz h (n+1) (.op k ver off) else .op k ver off:=rfl
theorem frz_osl:frz fz h (n+1) (.osl k ver sz off len)=if fz k=true then rei fz h (n+1) (.osl k ver sz off len) else .osl k ver sz off len:=rfl
theorem ipOf_some{cs:wi}{g:AV->AV}:qE1 (some cs) g off= .ip ((cs.drop off).map g):=rfl
theorem slOf_mem{cs:wi}{g:AV->AV}{ve:Nat}{ty:TypeId}:qe4 (some (.mem ve ty cs)) ver sz off len g=if ve=ver∧off+len*sz<=cs.length then .sl len (λi=>((cs.drop (off+i*sz)).take sz).map g) else .undef:=rfl
theorem slOf_emp{g:AV->AV}{ve:Nat}:qe4 (some (.emp ve)) ver sz off len g=if ve=ver then .nl else .undef:=rfl
theorem rei_int{k:IntKind}{a:Int}:rei fz h (n+1) (.int k a)= .int k a:=rfl
theorem rei_bool{a:Bool}:rei fz h (n+1) (.bool a)= .bool a:=rfl
theorem rei_str{a:List UInt8}:rei fz h (n+1) (.str a)= .str a:=rfl
theorem rei_sl{m:Nat}{f:Nat->wi}:rei fz h (n+1) (.sl m f)= .sl m f:=rfl
theorem rei_nl:rei fz h (n+1) .nl= .nl:=rfl
theorem rei_ip{cs:wi}:rei fz h (n+1) (.ip cs)= .ip cs:=rfl
theorem rei_agg{cs:wi}:rei fz h (n+1) (.agg cs)= .agg (cs.map (rei fz h n)):=rfl
theorem rei_tup{cs:wi}:rei fz h (n+1) (.tup cs)= .tup (cs.map (rei fz h n)):=rfl
theorem rei_fn{f:Fn}{a b:wi}:rei fz h (n+1) (.fn f a b)= .fn f (a.map (rei fz h n)) (b.map (rei fz h n)):=rfl
theorem rei_nilp:rei fz h (n+1) .nilp= .nilp:=rfl
theorem rei_undef:rei fz h (n+1) .undef= .undef:=rfl
end
attribute [go_sem] rei_op rei_osl frz_op frz_osl ipOf_some slOf_mem slOf_emp rei_int rei_bool rei_str rei_sl rei_nl rei_ip rei_agg rei_tup rei_fn rei_nilp rei_undef Nat.le_add_right Nat.le_refl Nat.mul_one Nat.one_mul
theorem qq1{P:Program}{b:Nat}{r:List RO}{K:Nx}{t:wi}{h:wh}{d:Option Nat}{xs:List X}{j:Nat}{u:Bool}:opsA P b (⟨d,some (j,u),.callv,xs⟩::r) K t h=
  (zP (zU j t)=true∧(qS (zU j t) u=true->flags (evs t xs)∧qaE P (strips (evs t xs)) d (opsA P b r K) t h)∧(qS (zU j t) u=false->opsA P b r K (qY t d .undef) h)):=by simp only[opsA,stepO,kO,R.kd]
theorem qj9{P:Program}{k:Nat}{args:wi}{d:Option Nat}{nx:Nx}{t:wi}{h:wh}:qaE P (.yld k::args) d nx t h=((∃s ts L,qu k h=some (.lp s ts L))∧kr P k args h λv h'=>nx (qY t d v) h'):=(rfl)
theorem qcQ:valP (.un .not) [.undef]= .bool true:=rfl
theorem ql1{g q:Bool}:kp (.bool false) (.gd g .undef) (.bool q)= .bool q:=rfl
attribute [go_sem] qq1 qj9 qcQ ql1 true_implies false_implies Bool.false_eq_true Bool.true_eq_false
end AF
end
section
namespace AF
open Go
theorem qlM{P:Program}{b:Nat}{l:List RO}: ∀ {nx nx':Nx} {t:wi} {h:wh},(∀t h,nx t h->nx' t h)->opsA P b l nx t h->opsA P b l nx' t h:=by
 induction l with
 |nil=>intro nx nx' t h hn H;exact hn _ _ H
 |cons o l ih=>intro nx nx' t h hn H;exact kB (λt h H=>ih hn H) H
theorem qdN{h0:wh}{t:wi}{Q Q':Ex->Nx}{h:wh}(hq: ∀e t h,Q e t h->Q' e t h)(H:qdM h0 t Q h):qdM h0 t Q' h:=by
 obtain⟨hh,s,ts,L,h1,h2,h3,h4⟩:=H;refine⟨hh,s,ts,L,h1,h2,h3,?_⟩;cases s with
 |ready=>exact hq _ _ _ h4
 |ret=>exact hq _ _ _ h4
 |exit id=>exact hq _ _ _ h4
 |busy=>exact h4
theorem U4{P:Program}{b:Nat}{x:C}: ∀ {Q Q':Ex->Nx} {t:wi} {h:wh},(∀e t h,Q e t h->Q' e t h)->ze P b x Q t h->ze P b x Q' t h:=by
 induction x with
 |skip=>intro Q Q' t h hq H;exact hq _ _ _ H
 |ops l=>intro Q Q' t h hq H;exact qlM (λt h H=>hq _ _ _ H) H
 |seq x y ihx ihy=>
  intro Q Q' t h hq H;refine ihx (λe t h H=> ?_) H;cases e with
  |normal=>exact ihy hq H
  |exit id=>exact hq _ _ _ H
  |ret=>exact hq _ _ _ H
 |cond c x y ihx ihy=>
  intro Q Q' t h hq H;simp only[ze,qfD]at*;split at H
  ·exact⟨λe=>ihx hq (H.1 e),λe=>ihy hq (H.2 e)⟩
  ·exact⟨ihx hq H.1,ihy hq H.2⟩
  ·exact H.elim
 |block id x ih=>
  intro Q Q' t h hq H;refine ih (λe t h H=> ?_) H;cases e with
  |normal=>exact hq _ _ _ H
  |ret=>exact hq _ _ _ H
  |exit i=>
   simp only[Ex.inBlock]at*;split
   ·rename_i e;rw[if_pos e]at H;exact hq _ _ _ H
   ·rename_i e;rw[if_neg e]at H;exact hq _ _ _ H
 |loop x ih=>
  intro Q Q' t h hq H;obtain⟨I,h1,h2⟩:=H;refine⟨I,h1,λn t' h' hi=>ih (λe t h H=> ?_) (h2 n t' h' hi)⟩;cases e with
  |normal=>exact H
  |exit id=>exact hq _ _ _ H
  |ret=>exact hq _ _ _ H
 |range u ps x y ihx ihy=>
  intro Q Q' t h hq H L hy
  have:=H L hy
  split at this
  ·exact this.le (qbb.refl _) (λv h' hr=>⟨v,VLe.refl _,qdN hq hr⟩)
  ·exact this
 |exit id=>intro Q Q' t h hq H;exact hq _ _ _ H
 |ret=>intro Q Q' t h hq H;exact hq _ _ _ H
 |wk=>
  intro Q Q' t h hq H;obtain⟨t',h',h1,h2⟩:=H;exact⟨t',h',h1,hq _ _ _ h2⟩
 |draw d=>
  intro Q Q' t h hq H;obtain⟨M,h1,h2⟩:=H;exact⟨M,h1,λt' h' hm=>hq _ _ _ (h2 t' h' hm)⟩
 |bad=>intro Q Q' t h hq H;exact H
def quV(o:Option AObj)(ver sz off n:Nat):Option (Nat×wi):=
 match o with
 |some (.mem v _ cs)=>if v=ver∧off+n*sz<=cs.length then some (n,(cs.drop off).take (n*sz)) else none
 |some (.emp v)=>if v=ver∧n=0 then some (0,[]) else none
 |_=>none
theorem qcN{h:wh}{k ver sz off n:Nat}:ql h (.osl k ver sz off n)=quV (qu k h) ver sz off n:=rfl
theorem qmE{v ver sz off n:Nat}{ty:TypeId}{cs:wi}:quV (some (.mem v ty cs)) ver sz off n=if v=ver∧off+n*sz<=cs.length then some (n,(cs.drop off).take (n*sz)) else none:=rfl
theorem qmD{v ver sz off n:Nat}:quV (some (.emp v)) ver sz off n=if v=ver∧n=0 then some (0,[]) else none:=rfl
theorem qhv{k v z p n k' v' z' p' n':Nat}:qaz (.osl k v z p n) (.osl k' v' z' p' n')=(k !=k'):=rfl
theorem qi6{k v z p n m:Nat}{f:Nat->wi}:qaz (.osl k v z p n) (.sl m f)=true:=rfl
theorem qi5{k v z p n:Nat}:qaz (.osl k v z p n) .nl=true:=rfl
attribute [go_sem] Int.toNat_zero decide_true decide_false beq_self_eq_true
attribute [go_sem] qcN qmE qmD qhv qi6 qi5
theorem qgl{g:wh}{z:Nat}{i:AV}:valL g (.idxA z) [.nl,i]= .undef:=rfl
theorem qcB{g:wh}{n:Option Nat}:valL g (.load n) [.undef]= .undef:=rfl
theorem qcO{g:wh}{n:Nat}:valL g (.fldA n) [.undef]= .undef:=rfl
theorem qhx{op:BinOp}{y:AV}:UJ op .undef y= .undef:=rfl
theorem ql7{p g:Bool}:kp (.bool true) (.bool p) (.gd g .undef)= .bool p:=rfl
theorem ql2{p g:Bool}:kp (.bool false) (.gd g .undef) (.bool p)= .bool p:=rfl
attribute [go_sem] qgl qcB qcO qhx ql7 ql2
theorem qsI{P:Program}{b:Nat}{u:X}{ps:List Nat}{x y:C}{Q:Ex->Nx}{t:wi}{h:wh}:ze P b (.range u ps x y) Q t h=qeV P (ev t u) ps (ze P b x) (ze P b y) Q t h:=(rfl)
attribute [go_sem] qsI
end AF
end
section
namespace AF
open Go
theorem HR.move{w:World}{σ:List OB}{h:wh}(H:HR w σ h){k j vj:Nat}{ty:TypeId}{cs:wi}(hj:qu j h=some (.mem vj ty cs))(hk:qz h k=true)(hne:k≠j):
  ∃σ',HR w σ' (qt k (qt j h (.emp (vj+1))) (.mem (qo (qu k h)+1) ty cs))∧Ext w σ w σ'∧
   ∀sz off len x,VR w σ (.osl j vj sz off len) x->VR w σ' (.osl k (qo (qu k h)+1) sz off len) x:=by
 obtain⟨ok,hok,hver⟩:=jB H hk;have hjl:j<σ.length:=by rw[H.len];exact zR hj
 have hkl:k<σ.length:=(List.getElem?_eq_some_iff.1 hok).1;obtain⟨oj,hoj⟩: ∃oj,σ[j]? =some oj:=⟨_,List.getElem?_eq_getElem hjl⟩
 have hobj:=H.obj j _ oj hj hoj;obtain⟨m1,m2,b,arr,m3,m4,m5,m6,m7,m8⟩:=hobj;rw[hver]
 let oj':OB:= { oj with blk:=none,ver:=oj.ver+1 }
 let ok':OB:= { oj with ver:=ok.ver+1 }
 let σ':=(σ.set j oj').set k ok'
 have gk:σ'[k]? =some ok':=by simp[σ',hkl]
 have gj:σ'[j]? =some oj':=by simp only[σ'];rw[List.getElem?_set_ne hne];simp[hjl]
 have go: ∀i,i≠k->i≠j->σ'[i]? =σ[i]? :=by
  intro i h1 h2;simp only[σ'];rw[List.getElem?_set_ne (λe=>h1 e.symm),List.getElem?_set_ne (λe=>h2 e.symm)]
 have blk: ∀(i:Nat) (o:OB) (b:Nat),σ'[i]? =some o->o.blk=some b->(i=k∧oj.blk=some b)∨(i≠k∧i≠j∧σ[i]? =some o):=by
  intro i o b h1 h2
  by_cases e1:i=k
  ·subst e1;rw[gk]at h1;cases h1;exact .inl ⟨rfl,h2⟩
  ·by_cases e2:i=j
   ·subst e2;rw[gj]at h1;cases h1;cases h2
   ·rw[go i e1 e2]at h1;exact .inr ⟨e1,e2,h1⟩
 have hext:Ext w σ w σ':=by
  refine⟨rfl,rfl,rfl,Nat.le_refl _,λ_ _ _=>rfl,?_,?_,λb r h=>⟨r,h⟩⟩
  ·rintro b ⟨i,o,h1,h2⟩;rcases blk i o b h1 h2 with⟨_,h3⟩|⟨_,_,h3⟩
   ·exact .inl ⟨j,oj,hoj,h3⟩
   ·exact .inl ⟨i,o,h3,h2⟩
  ·intro i o h1
   by_cases e1:i=k
   ·subst e1;rw[hok]at h1;cases h1;exact⟨ok',gk,by simp[ok'],by simp[ok']⟩
   ·by_cases e2:i=j
    ·subst e2;rw[hoj]at h1;cases h1;exact⟨oj',gj,by simp[oj'],by simp[oj']⟩
    ·exact⟨o,by rw[go i e1 e2];exact h1,Nat.le_refl _,λ_=>rfl⟩
 refine⟨σ',⟨by simp[σ',qt,H.len],?_,?_,?_⟩,hext,?_⟩
 ·intro i i' o o' b h1 h2 h3 h4;rcases blk i o b h1 h3 with⟨rfl,g1⟩|⟨g0,g1,g2⟩<;>rcases blk i' o' b h2 h4 with⟨rfl,g1'⟩|⟨g0',g1',g2'⟩
  ·rfl
  ·exact absurd (H.inj i' j o' oj b g2' hoj h4 g1) g1'
  ·exact absurd (H.inj i j o oj b g2 hoj h3 g1') g1
  ·exact H.inj i i' o o' b g2 g2' h3 h4
 ·intro i o b h1 h2;rcases blk i o b h1 h2 with⟨_,g1⟩|⟨_,_,g2⟩
  ·exact H.lt j oj b hoj g1
  ·exact H.lt i o b g2 h2
 ·intro i a o ha ho
  by_cases e1:i=k
  ·subst e1;have hkh:i<(qt j h (.emp (vj+1))).length:=by rw[qO,<-H.len];exact hkl
   have:=jA (o:= .mem (ok.ver+1) ty cs) hkh
   unfold qu at this;rw[this]at ha;cases ha;rw[gk]at ho;cases ho;exact⟨rfl,m2,b,arr,m3,m4,m5,m6,m7,λi c x hc hx=>(m8 i c x hc hx).ext hext⟩
  ·by_cases e2:i=j
   ·subst e2;have hjh:i<h.length:=by rw[<-H.len];exact hjl
    simp only[qt]at ha;rw[List.getElem?_set_ne hne,List.getElem?_set_self hjh]at ha;cases ha;rw[gj]at ho;cases ho;exact⟨by simp[oj',m1],rfl⟩
   ·rw[go i e1 e2]at ho;simp only[qt]at ha;rw[List.getElem?_set_ne (λe=>e1 e.symm),List.getElem?_set_ne (λe=>e2 e.symm)]at ha;exact (H.obj i a o ha ho).ext hext (λ_ _=>rfl)
 ·intro sz off len x hx;cases hx with
  |imm h=>cases h
  |osl o ho hs hle hh=>
   rw[hoj]at ho;cases ho;refine .osl ok' gk hs (Nat.le_refl _) (λ_=> ?_);exact hh m1
def fnM(rs:List RV)(h0:wh)(k:Nat)(K:AV->wh->Prop):Ex->Nx
 | .exit _,_,_=>False
 |_,t,hh=> ∃(j vj sz off len:Nat) (ty:TypeId) (cs:wi) (tl:wh),kK t hh rs∧qfT (jm t hh rs)= .osl j vj sz off len∧hh=h0++tl∧h0.length<=j∧qu j hh=some (.mem vj ty cs)∧
   (∀c∈cs,qV h0.length c=true)∧qz h0 k=true∧K (.osl k (qo (qu k h0)+1) sz off len) (qt k h0 (.mem (qo (qu k h0)+1) ty cs))
theorem qht{P:Program}{f nt ns:Nat}{rs:List RV}{c:C}(hf:qG P f nt ns rs c){args:wi}{h:wh}{K:AV->wh->Prop}(k:Nat)(ha:args.length<=nt)
  (hw:ze P h.length c (fnM rs h k K) (args++List.replicate (nt-args.length) .undef) (h++List.replicate ns (.emp 0))):jj P f args h K:=by
 obtain⟨fn,body,js,imp,wks,h1,h2,h3,rfl,rfl,h6,h7⟩:=hf;refine⟨by simp[okF,h1,h2,h3],λw σ xs H hv=> ?_⟩;refine callsIn_of_wp_marks h1 h2 trivial ?_;obtain⟨p1,p2⟩:=H.pushN js.length;have hsr:SR w.heap.size w (σ++List.replicate js.length ⟨none,0,0,0⟩) (args++List.replicate (fn.ntmps-args.length) .undef) (h++List.replicate js.length (.emp 0))
   { tmps:=xs.toArray++Array.replicate (fn.ntmps-xs.toArray.size) Go.undef,defers:= [] }:=by
  refine⟨p1,by simp[hv.1],λi c x hc hx=> ?_,⟨[],rfl,.nil,Nat.le_refl _,by simp⟩⟩;rw[List.getElem?_append]at hc;simp only[Array.getElem?_append]at hx;have hz:xs.toArray.size=args.length:=by simp[hv.1]
  split at hc
  ·rename_i hi;rw[if_pos (by omega)]at hx;exact (hv.2 i c x hc (by simpa using hx)).ext p2
  ·rw[List.getElem?_replicate]at hc;split at hc
   ·cases hc;exact .imm .undef
   ·cases hc
 refine wpIn_mono (qgF (b:=h.length) h7 w.heap.size none _ w _ _ _ _ hw (by simp) hsr) ?_;rintro e a' w' ⟨z,σ',t',hh,he,g1,g2,g3⟩;have key:(∃(j vj sz off len:Nat) (ty:TypeId) (cs:wi) (tl:wh),kK t' hh rs∧qfT (jm t' hh rs)= .osl j vj sz off len∧hh=h++tl∧h.length<=j∧qu j hh=some (.mem vj ty cs)∧
   (∀c∈cs,qV h.length c=true)∧qz h k=true∧K (.osl k (qo (qu k h)+1) sz off len) (qt k h (.mem (qo (qu k h)+1) ty cs)))->
   LeavesInM Fence.wide 0 P fn a'.tmps (λe w'=> ∃v σ' r h',K r h'∧e= .returned v∧HR w' σ' h'∧VR w' σ' r v∧Ext w σ w' σ') a'.defers .returning w':=by
  rintro⟨j,vj,sz,off,len,ty,cs,tl,k1,k2,rfl,k3,k4,k5,k6,hK⟩;obtain⟨ms,d1,d2,d3,d4⟩:=g1.df;rw[d1];refine qbH (N:=w.heap.size) ms w' d2 (λr hr=>⟨(d4 r hr).1,(d4 r hr).2.2.2⟩) (λw1 e1=> ?_);have H1:=g1.hr.dt e1;obtain⟨v,v1,v2⟩:=qdd (P:=P) H1 g1.sz (λi c x hc hx=>(g1.tm i c x hc hx).dt e1) h6 k1;rw[k2]at v2;have ee:Ext w σ w1 σ':=(p2.trans g2).dt e1;have hkl:k<h.length:=by
   have:=k6
   unfold qz at this;split at this
   ·rename_i hx;exact zR hx
   ·rename_i hx;exact zR hx
   ·rename_i hx;exact zR hx
   ·cases this
  have hkt:qz (h++tl) k=true:=by unfold qz at k6 ⊢;rw[zL hkl];exact k6
  obtain⟨σ2,q1,q2,q3⟩:=H1.move k4 hkt (by omega);have q3':=q3 _ _ _ _ v2;rw[zL hkl]at q1 q3';have eh:qt k (qt j (h++tl) (.emp (vj+1))) (.mem (qo (qu k h)+1) ty cs)=qt k h (.mem (qo (qu k h)+1) ty cs)++qt (j-h.length) tl (.emp (vj+1)):=by
   unfold qt;rw[List.set_append_right _ _ k3,List.set_append_left _ _ hkl]
  rw[eh]at q1;obtain⟨m1,m2⟩:=HR.trunc H (ee.trans q2) q1 qO (λo ho=>by
   rcases jt ho with h1|rfl
   ·exact .inl h1
   ·exact .inr k5)
  refine⟨v,v1,v,_,_,_,hK,rfl,m1,?_,m2⟩;cases q3' with
  |imm h=>cases h
  |osl o ho hs hle hh=>
   refine .osl o ?_ hs hle hh;rw[List.getElem?_take,if_pos hkl];exact ho
 cases e with
 |normal=>cases he;exact key g3
 |ret=>cases he;exact key g3
 |exit id=>cases he;exact g3.elim
 |goto l=>cases he
 |panic c=>cases he
 |outgrown=>cases he
theorem qfo{P:Program}{f nt ns:Nat}{rs:List RV}{c:C}(hf:qG P f nt ns rs c){args:wi}{h:wh}{r:AV}{h':wh}(k:Nat)(ha:args.length<=nt)
  (hw:ze P h.length c (fnM rs h k λr1 h1=>r1=r∧h1=h') (args++List.replicate (nt-args.length) .undef) (h++List.replicate ns (.emp 0))):ACalls P f args h r h':=(qht hf k ha hw).calls
end AF
end
section
namespace AF
open Go
section
variable {P : Program} {b : Nat} {r : List RO} {K : Nx} {t : wi} {h : wh} {d : Option Nat} {xs : List X} {j : Nat} {u : Bool}
theorem wg_bslc{i z n:Nat}{ty:TypeId}{zs:wi}{ps:List (Nat×Nat)}:opsA P b (⟨d,some (j,u),.bslc i z n ty zs ps,xs⟩::r) K t h=
  (zP (zU j t)=true∧(qS (zU j t) u=true->flags (evs t xs)∧effE b h (.bslc i z n ty zs ps) (strips (evs t xs)) t d (opsA P b r K))∧(qS (zU j t) u=false->opsA P b r K (qY t d .undef) h)):=by simp only[opsA,stepO,kO,R.kd]
end
attribute [go_sem] wg_bslc
end AF
end
section
namespace AF
open Go
def qw(o:Option AObj)(ver:Nat):Option wi:=
 match o with
 |some (.mem v _ cs)=>if v=ver then some cs else none
 |_=>none
def qJ(o:Option AObj)(ver:Nat):Bool:=
 match o with
 |some (.mem v _ _)=>v==ver
 |some (.emp v)=>v==ver
 |_=>false
section
variable {h l : wh} {i j k ver v : Nat} {o o' o'' : AObj} {ty : TypeId} {cs : wi}
theorem zH:cellsOf h k ver=qw (qu k h) ver:=rfl
theorem jp:qH h k ver=qJ (qu k h) ver:=rfl
theorem qm:qw (some (.mem v ty cs)) ver=if v=ver then some cs else none:=rfl
theorem gG:qJ (some (.mem v ty cs)) ver=(v==ver):=rfl
theorem qc6:qJ (some (.emp v)) ver=(v==ver):=rfl
theorem qT(hne:k≠j):qu k (qt j h o)=qu k h:=by unfold qu qt;rw[List.getElem?_set_ne (λe=>hne e.symm)]
theorem qdA(hk:k<h.length):qu k (qt j h o++l)=qu k (qt j h o):=zL (by rw[qO];exact hk)
theorem qdB(hk:k<h.length):qu k (qt i (qt j h o) o'++l)=qu k (qt i (qt j h o) o'):=zL (by rw[qO,qO];exact hk)
theorem qdT(hk:k<h.length):qt k (qt j h o++l) o'=qt k (qt j h o) o'++l:=zN (by rw[qO];exact hk)
theorem qdU(hk:k<h.length):qt k (qt i (qt j h o) o'++l) o''=qt k (qt i (qt j h o) o') o''++l:=zN (by rw[qO,qO];exact hk)
theorem kM(hne:i≠j):qt i (qt j h o) o'=qt j (qt i h o') o:=by unfold qt;rw[List.set_comm _ _ (λe=>hne e.symm)]
end
end AF
end
section
namespace AF
open Go
theorem qaT{α β:Type}{f:α->Option β}: ∀ {l:List α} {ys:List β},l.mapM f=some ys->ys.length=l.length∧ ∀(i:Nat) x y,l[i]? =some x->ys[i]? =some y->f x=some y:=by
 intro l
 induction l with
 |nil=>intro ys h;simp at h;subst h;simp
 |cons a l ih=>
  intro ys h;rw[List.mapM_cons]at h;cases ha:f a with
  |none=>simp[ha]at h
  |some b=>
   cases hl:l.mapM f with
   |none=>simp[ha,hl]at h
   |some zs=>
    simp[ha,hl]at h;subst h;obtain⟨h1,h2⟩:=ih hl;refine⟨by simp[h1],λi x y hx hy=> ?_⟩;cases i with
    |zero=>simp at hx hy;subst hx hy;exact ha
    |succ i=>exact h2 i x y (by simpa using hx) (by simpa using hy)
section
variable {H : Type} {enc : TypeId × Value -> H} {P : Program} {w : World} {sp : Nat -> Bool} {held : Bool} {ow : Nat -> Prop}
end
theorem HR.nil(w:World):HR w [] []:=⟨rfl,by simp,by simp,by simp⟩
theorem quj(b:Nat): ¬own [] b:=λ⟨k,o,h,_⟩=>by simp at h
theorem VRs.nil'{w:World}{σ:List OB}:VRs w σ [] []:=⟨rfl,by simp⟩
theorem VRs.cons'{w:World}{σ:List OB}{a:AV}{v:Value}{as:wi}{vs:List Value}(h:VR w σ a v)(h':VRs w σ as vs):VRs w σ (a::as) (v::vs):=by
 refine⟨by simp[h'.1],λi c x hc hx=> ?_⟩;cases i with
 |zero=>simp at hc hx;subst hc hx;exact h
 |succ i=>exact h'.2 i c x (by simpa using hc) (by simpa using hx)
end AF
end
section
namespace AF
open Go Go.ChangeShapes Go.WideShapes Go.ChangeAt Go.RowKit
section
variable {H : Type} {enc : TypeId × Value -> H} {P : Program} {W W' : World}
theorem qfe(hl:laidOutB P=true)(hb:Below W.heap.size W W'): ∀ {ts:List TypeId} {vs:List Value} {ds:List (DataW H)} {ps:List MemPlace},(∀t∈ts,P.readableRec t=true∧t<P.types.size)->
  (∀x∈ps,x.block<W.heap.size)->DataW.TrodAll enc P W 0 (λ_=>true) true ts vs ds ps->DataW.TrodAll enc P W' 0 (λb=>decide (b<W.heap.size)) true ts vs ds ps:=by
 intro ts
 induction ts with
 |nil=>
  intro vs ds ps _ _ h
  match vs,ds,h with
  | [],[],h=>exact h
 |cons t ts ih=>
  intro vs ds ps ht hp h
  match vs,ds,h with
  |v::vs,d::ds,⟨p,q,h1,h2,e⟩=>
   subst e;refine⟨p,q,?_,?_,rfl⟩
   ·exact Below.trod hl (ht t (by simp)).1 (ht t (by simp)).2 h1 hb (λx hx=>hp x (by simp[hx]))
   ·exact ih (λu hu=>ht u (by simp[hu])) (λx hx=>hp x (by simp[hx])) h2
theorem qpl{f:Func}{s:ChangeSpec}{args:Array Value}{ds:List (DataW H)}{before:List MemPlace}{tb:TypeId}(hl:laidOutB P=true)(hv:s.vars= [])(hfn:s.fn H ds= { results:= [.lit (.bool true)],args:=ds })
  (hrt:f.resultTypes= #[tb]) (htb:P.underlying tb=some .bool) (hro: ∀t∈f.params.toList,P.readableRec t=true∧t<P.types.size)
  (hW:DataW.Whole enc P f.params.toList s.vars false W args.toList ds [] before) (hA:DataW.TrodAll enc P W 0 (λ_=>true) true f.params.toList args.toList ds before) (hb:Below W.heap.size W W'):
  s.post enc P f false true false false W args (.bool true) W':=by
 have hlt: ∀x∈before,x.block<W.heap.size:=λx hx=>hW.lt x hx
 refine⟨ds,[],before,[],before,[],hW,?_,?_,?_,?_,λh=>by cases h⟩
 ·rw[List.append_nil,hfn,hrt];exact⟨[],[],shut_bool htb true,rfl,rfl⟩
 ·rw[List.append_nil,hfn];exact qfe hl hb hro hlt hA
 ·rw[List.append_nil,hfn,hv];rfl
 ·exact World.keptBut_mono (λx hx=>⟨hx,.inr (.inl hx)⟩) (hb.frame (· ∈before))
end
end AF
end
section
namespace AF
open Go
def qqL(P:Program):Nat->List Field->Option Nat
 |n,[]=>some n
 |n,f::r=>if f.offset=n then qqL P (n+P.cellsOf f.type) r else none
def qbJ(P:Program):Nat->TypeId->Bool
 |0,_=>false
 |d+1,t=>match P.underlying t with
  |some .bool=>decide (P.cellsOf t=1)
  |some (.int _)=>decide (P.cellsOf t=1)
  |some .string=>decide (P.cellsOf t=1)
  |some (.slice e)=>decide (P.cellsOf t=1)&&(decide (0<P.cellsOf e)&&qbJ P d e)
  |some (.struct fs)=>decide (qqL P 0 fs.toList=some (P.cellsOf t))&&fs.toList.all λf=>qbJ P d f.type
  |_=>false
def jo(P:Program):Nat->TypeId->wi->Prop
 |0,_,_=>False
 |d+1,t,as=>match P.underlying t with
  |some .bool=> ∃b,as= [.bool b]
  |some (.int k)=> ∃n,as= [.int k n]∧(Lit.int k n).wf=true
  |some .string=> ∃s:List UInt8,as= [.str s]∧s.length<=maxLen
  |some (.slice e)=> ∃(n:Nat) (f:Nat->wi),as= [.sl n f]∧n<=maxLen∧ ∀i,i<n->jo P d e (f i)
  |some (.struct fs)=>as.length=P.cellsOf t∧ ∀f∈fs.toList,jo P d f.type ((as.drop f.offset).take (P.cellsOf f.type))
  |_=>False
section
variable {H : Type} {enc : TypeId × Value -> H} {P : Program} {w : World} {held : Bool} {ow : Nat -> Prop}
structure UL (w:World) (ow:Nat->Prop) (as:wi) (cs:List Value):Prop where
 len:cs.length=as.length
 one: ∀(i:Nat) v,cs[i]? =some v->v.oneCell'=true
 vi: ∀(i:Nat) c v,as[i]? =some c->cs[i]? =some v->VI w ow c v
theorem UL.single{a:AV}{v:Value}(h1:v.oneCell'=true)(h2:VI w ow a v):UL w ow [a] [v]:=by
 refine⟨rfl,λi x hx=> ?_,λi c x hc hx=> ?_⟩
 ·cases i<;>simp at hx;subst hx;exact h1
 ·cases i<;>simp at hx hc;subst hx hc;exact h2
theorem UL.append{as bs:wi}{cs ds:List Value}(h:UL w ow as cs)(h':UL w ow bs ds):UL w ow (as++bs) (cs++ds):=by
 have hl:=h.len;refine⟨by simp[hl,h'.len],λi v hv=> ?_,λi c v hc hv=> ?_⟩
 ·rw[List.getElem?_append]at hv;split at hv
  ·exact h.one i v hv
  ·exact h'.one _ v hv
 ·rw[List.getElem?_append]at hc hv;split at hv
  ·rename_i hi;rw[if_pos (by omega)]at hc;exact h.vi i c v hc hv
  ·rename_i hi;rw[if_neg (by omega),<-hl]at hc;exact h'.vi _ c v hc hv
theorem qfG{d fuel:Nat}(ih: ∀(t:TypeId) (cs:List Value) (dd:DataW H) (ps:List MemPlace),qbJ P d t=true->DataW.trod enc P w 0 (λ_=>true) held fuel t cs=some (dd,ps)-> ∃as,jo P d t as∧as.length=P.cellsOf t∧UL w ow as cs){cs:List Value}:
  ∀(fs:List Field) (n m:Nat) (xs:List (DataW H×List MemPlace)),qqL P n fs=some m->(∀f∈fs,qbJ P d f.type=true)->m<=cs.length->
   fs.mapM (λf=>DataW.trod enc P w 0 (λ_=>true) held fuel f.type ((cs.drop f.offset).take (P.cellsOf f.type)))=some xs->
   n<=m∧ ∃as,(∀f∈fs,n<=f.offset∧jo P d f.type ((as.drop (f.offset-n)).take (P.cellsOf f.type)))∧as.length=m-n∧UL w ow as ((cs.drop n).take (m-n)):=by
 intro fs
 induction fs with
 |nil=>
  intro n m xs ht _ hm _;cases ht;exact⟨Nat.le_refl _,[],by simp,by simp,⟨by simp,by simp,by simp⟩⟩
 |cons f r ihr=>
  intro n m xs ht hk hm hx;simp only[qqL]at ht;split at ht
  ·rename_i hoff;rw[List.mapM_cons]at hx;cases ha:DataW.trod enc P w 0 (λ_=>true) held fuel f.type ((cs.drop f.offset).take (P.cellsOf f.type))with
   |none=>simp[ha]at hx
   |some y=>
    cases hl:r.mapM (λf=>DataW.trod enc P w 0 (λ_=>true) held fuel f.type ((cs.drop f.offset).take (P.cellsOf f.type)))with
    |none=>simp[ha,hl]at hx
    |some zs=>
     obtain⟨g0,as1,g1,g2,g3⟩:=ihr (n+P.cellsOf f.type) m zs ht (λg hg=>hk g (by simp[hg])) hm hl;obtain⟨as0,k1,k2,k3⟩:=ih f.type _ y.1 y.2 (hk f (by simp)) (by rw[ha]);rw[hoff]at k3;refine⟨by omega,as0++as1,λg hg=> ?_,by rw[List.length_append,k2,g2];omega,?_⟩
     ·rcases List.mem_cons.1 hg with rfl|hg
      ·refine⟨by omega,?_⟩;rw[hoff,Nat.sub_self,List.drop_zero,List.take_append_of_le_length (by omega),List.take_of_length_le (by omega)];exact k1
      ·obtain⟨q1,q2⟩:=g1 g hg;refine⟨by omega,?_⟩;rw[List.drop_append,List.drop_of_length_le (by omega),List.nil_append,show g.offset-n-as0.length=g.offset-(n+P.cellsOf f.type) by omega];exact q2
     ·have e:(cs.drop n).take (m-n)=(cs.drop n).take (P.cellsOf f.type)++(cs.drop (n+P.cellsOf f.type)).take (m-(n+P.cellsOf f.type)):=by
       rw[show m-n=P.cellsOf f.type+(m-(n+P.cellsOf f.type)) by omega,List.take_add,List.drop_drop]
      rw[e];exact k3.append g3
  ·cases ht
theorem qmQ{a:Addr}{v:Value}(h:w.cell? a=some v): ∃b off,a=⟨b,off,none⟩∧b<w.heap.size:=by
 obtain⟨b,off,spot⟩:=a;unfold World.cell? at h;split at h
 ·rename_i c e f hb;split at h
  ·cases h
  ·rename_i hs;cases spot with
   |some _=>simp at hs
   |none=>exact⟨b,off,rfl,(Array.getElem?_eq_some_iff.1 hb).1⟩
 ·cases h
theorem qkF(how: ∀b,¬ow b): ∀(d fuel:Nat) (t:TypeId) (cs:List Value) (dd:DataW H) (ps:List MemPlace),qbJ P d t=true->DataW.trod enc P w 0 (λ_=>true) held fuel t cs=some (dd,ps)->
  ∃as,jo P d t as∧as.length=P.cellsOf t∧UL w ow as cs:=by
 intro d
 induction d with
 |zero=>intro fuel t cs dd ps hk;cases hk
 |succ d ih=>
  intro fuel t cs dd ps hk h;unfold qbJ at hk;unfold jo;split at hk
  ·rename_i ht;have hc:=of_decide_eq_true hk;obtain⟨b,rfl,_⟩:=DataW.trod_bool ht h;exact⟨[.bool b],⟨b,rfl⟩,hc.symm,UL.single rfl .bool⟩
  ·rename_i k ht;have hc:=of_decide_eq_true hk;obtain⟨n,rfl,_,hw⟩:=DataW.trod_int ht h;exact⟨[.int k n],⟨n,rfl,hw⟩,hc.symm,UL.single rfl .int⟩
  ·rename_i ht;have hc:=of_decide_eq_true hk;obtain⟨s,rfl,_,hw⟩:=DataW.trod_string ht h;have hsz:s.data.toList.length<=maxLen:=by rw[Array.length_toList];exact hw
   exact⟨[.str s.data.toList],⟨_,rfl,hsz⟩,hc.symm,UL.single rfl (by have:= @VI.str w ow s.data.toList;rw[Array.toArray_toList]at this;exact this)⟩
  ·rename_i e ht;simp only[Bool.and_eq_true,decide_eq_true_eq]at hk;obtain⟨hc,hpos,hk⟩:=hk;cases fuel with
   |zero=>simp[DataW.trod]at h
   |succ fuel=>
    have hcs:(cs= [.slice none 0 0])∨ ∃a len cap,cs= [.slice (some a) len cap]:=by
     unfold DataW.trod at h;rw[ht]at h;split at h<;>first|(rename_i g _;cases g;done)|skip
     all_goals first|(rename_i g;cases g;done)|skip
     all_goals first|exact .inl rfl|exact .inr ⟨_,_,_,rfl⟩|(cases h;done)
    rcases hcs with rfl|⟨a,len,cap,rfl⟩
    ·exact⟨[.sl 0 λ_=> []],⟨0,λ_=> [],rfl,Nat.zero_le _,λi hi=>absurd hi (Nat.not_lt_zero _)⟩,hc.symm,UL.single rfl .nilsl⟩
    ·simp only[DataW.trod,ht]at h;split at h
     ·rename_i hcc;obtain⟨_,c1,c2⟩:=hcc;rw[Option.bind_eq_some_iff]at h;obtain⟨elems,hm,hrest⟩:=h;rw[Option.map_eq_some_iff]at hrest;obtain⟨rest,hrest,_⟩:=hrest
      try simp only[if_true]at hrest
      obtain⟨m1,m2⟩:=qaT hm;obtain⟨r1,r2⟩:=qaT hrest;simp only[List.length_range]at m1 r1;have all: ∀i,i<cap-> ∃x,((w.cells? 0 (a.add (i*P.cellsOf e)) (P.cellsOf e)).bind (DataW.trod enc P w 0 (λ_=>true) held fuel e))=some x:=by
       intro i hi
       by_cases hl:i<len
       ·exact⟨_,m2 i i _ (by simp[hl]) (List.getElem?_eq_getElem (by omega))⟩
       ·have:=r2 (i-len) (i-len) _ (by rw[List.getElem?_range (by omega)]) (List.getElem?_eq_getElem (by omega))
        rw[show len+(i-len)=i by omega]at this;exact⟨_,this⟩
      by_cases hcap:cap=0
      ·subst hcap
       have:len=0:=by omega
       subst this;exact⟨[.sl 0 λ_=> []],⟨0,λ_=> [],rfl,Nat.zero_le _,λi hi=>absurd hi (Nat.not_lt_zero _)⟩,hc.symm,UL.single rfl .nilsl⟩
      ·obtain⟨x0,h0⟩:=all 0 (by omega);rw[Option.bind_eq_some_iff]at h0;obtain⟨cs0,h0,_⟩:=h0;rw[Nat.zero_mul]at h0;have hadd0:a.add 0=a:=by simp[Addr.add]
       rw[hadd0]at h0;unfold World.cells? at h0;rw[if_pos (Nat.zero_le _)]at h0;obtain⟨n1,n2⟩:=qaT h0;simp only[List.length_range]at n1;have hcell:=n2 0 0 _ (by simp[hpos]) (List.getElem?_eq_getElem (show 0<cs0.length by omega));rw[hadd0]at hcell;obtain⟨b,off,rfl,hlt⟩:=qmQ hcell;have hadd: ∀n,(⟨b,off,none⟩:Addr).add n=⟨b,off+n,none⟩:=by
        intro n;unfold Addr.add;split
        ·rename_i h;subst h;rfl
        ·rfl
       have hadd2: ∀n m,(⟨b,off+n,none⟩:Addr).add m=⟨b,off+n+m,none⟩:=by
        intro n m;unfold Addr.add;split
        ·rename_i h;subst h;rfl
        ·rfl
       have key: ∀i,i<len-> ∃(as:wi) (cs:List Value),jo P d e as∧as.length=P.cellsOf e∧UL w ow as cs∧(∀(j:Nat) v,cs[j]? =some v->w.cell? ⟨b,off+i*P.cellsOf e+j,none⟩=some v):=by
        intro i hi;obtain⟨x,hx⟩:=all i (by omega);rw[Option.bind_eq_some_iff]at hx;obtain⟨cs,h3,h4⟩:=hx;obtain⟨as,f1,f2,f3⟩:=ih fuel e cs x.1 x.2 hk h4;rw[hadd]at h3;unfold World.cells? at h3;rw[if_pos (Nat.zero_le _)]at h3;obtain⟨n1,n2⟩:=qaT h3;simp only[List.length_range]at n1;refine⟨as,cs,f1,f2,f3,λj v hj=> ?_⟩;have hjl:j<P.cellsOf e:=by have:=(List.getElem?_eq_some_iff.1 hj).1;omega
        have:=n2 j j v (by simp[hjl]) hj
        rw[hadd2]at this;exact this
       have ex: ∃g:Nat->wi×List Value,∀i,i<len->jo P d e (g i).1∧(g i).1.length=P.cellsOf e∧UL w ow (g i).1 (g i).2∧(∀(j:Nat) v,(g i).2[j]? =some v->w.cell? ⟨b,off+i*P.cellsOf e+j,none⟩=some v):=by
        refine⟨λi=>if hi:i<len then ((key i hi).choose,(key i hi).choose_spec.choose) else ([],[]),λi hi=> ?_⟩;simp only[dif_pos hi];exact (key i hi).choose_spec.choose_spec
       obtain⟨g,hg⟩:=ex;refine⟨[.sl len λi=>(g i).1],⟨len,λi=>(g i).1,rfl,Nat.le_trans c1 c2,λi hi=>(hg i hi).1⟩,hc.symm,UL.single rfl (.sl (P.cellsOf e) b off cap (λi j=>(g i).2.getD j Go.undef) c1 c2 (λ_=>how b) hlt (λi hi=>(hg i hi).2.1) (λi j hi hj=> ?_) (λi j hi hj=> ?_) (λi j c hi hc=> ?_))⟩
       ·obtain⟨_,q2,q3,q4⟩:=hg i hi;have hl:=q3.len;have e:(g i).2[j]? =some (g i).2[j]:=List.getElem?_eq_getElem (by omega);rw[q4 j _ e,List.getD_eq_getElem?_getD,e];rfl
       ·obtain⟨_,q2,q3,q4⟩:=hg i hi;have hl:=q3.len;have e:(g i).2[j]? =some (g i).2[j]:=List.getElem?_eq_getElem (by omega);rw[List.getD_eq_getElem?_getD,e];exact q3.one j _ e
       ·obtain⟨_,q2,q3,q4⟩:=hg i hi;have hl:=q3.len;have hj:=(List.getElem?_eq_some_iff.1 hc).1;have e:(g i).2[j]? =some (g i).2[j]:=List.getElem?_eq_getElem (by omega);rw[List.getD_eq_getElem?_getD,e];exact q3.vi j c _ hc e
     ·cases h
  ·rename_i fs ht;simp only[Bool.and_eq_true,decide_eq_true_eq,List.all_eq_true]at hk;obtain⟨htile,hk⟩:=hk;cases fuel with
   |zero=>simp[DataW.trod]at h
   |succ fuel=>
    simp only[DataW.trod,ht]at h;split at h
    ·rename_i hcl;rw[Option.map_eq_some_iff]at h;obtain⟨xs,hm,_⟩:=h;obtain⟨_,as,g1,g2,g3⟩:=qfG (λt cs dd ps=>ih fuel t cs dd ps) fs.toList 0 (P.cellsOf t) xs htile hk (by omega) hm;rw[Nat.sub_zero]at g2 g3;rw[List.drop_zero,List.take_of_length_le (by omega)]at g3;exact⟨as,⟨g2,λf hf=>by have:=(g1 f hf).2;rwa [Nat.sub_zero]at this⟩,g2,g3⟩
    ·cases h
  ·cases hk
theorem qp0(how: ∀b,¬ow b){d:Nat}{t:TypeId}{cs:Array Value}{dd:DataW H}{ps:List MemPlace}(hk:qbJ P d t=true)(h:DataW.Trod enc P w 0 (λ_=>true) held t (.agg cs) dd ps): ∃as,jo P d t as∧VI w ow (.agg as) (.agg cs):=by
 obtain⟨fuel,h⟩:=h;obtain⟨as,g1,g2,g3⟩:=qkF how d fuel t _ dd ps hk h;refine⟨as,g1,.agg ?_ (λi x hx=>g3.one i x ?_) (λi c x hc hx=>g3.vi i c x hc ?_)⟩
 ·have:=g3.len;simpa[Value.cells] using this
 ·simpa[Value.cells] using hx
 ·simpa[Value.cells] using hx
end
end AF
end
section
namespace AF
open Go
def zw(v:Nat)(ty:TypeId)(cs:wi):AObj:=if cs= [] then .emp v else .mem v ty cs
section
variable {h l : wh} {k v w n c : Nat} {ty : TypeId} {cs ms : wi} {a : AV} {o : AObj}
theorem c8(h:cs≠ []):zw v ty cs= .mem v ty cs:=if_neg h
theorem liveS_own0:qH (zw v ty cs::l) 0 w=(v==w):=by unfold zw;split<;>rfl
theorem tyOk_own:qi0 (some (zw v ty cs)) ty=true:=by
 unfold zw;split
 ·rfl
 ·simp[qi0]
theorem cells_own0:((cellsOf (zw v ty cs::l) 0 v).getD [])=cs:=by
 unfold zw;split
 ·rename_i e;rw[e];rfl
 ·rw[cellsOf_0,if_pos rfl];rfl
theorem cellsS_own0:((cellsOf (zw v ty cs::l) 0 v).isSome=true)=(cs≠ []):=by
 unfold zw;split
 ·rename_i e;rw[e];simp[cellsOf,qu]
 ·rename_i e;rw[cellsOf_0,if_pos rfl];simp[e]
theorem qnX{b:AV}:qgt (some (zw v ty cs)) ty w c (n+1) (b::ms)=zw (w+1) ty (cs.take c++b::ms):=by
 rw[show zw (w+1) ty (cs.take c++b::ms)= .mem (w+1) ty (cs.take c++b::ms)from c8 (by simp)];unfold zw;split
 ·rename_i e;rw[e];simp[qgt]
 ·rfl
theorem appO_own1{b:AV}:qgt (some (zw v ty cs)) ty w c 1 (b::ms)=zw (w+1) ty (cs.take c++b::ms):=qnX (n:=0)
end
attribute [go_sem] liveS_own0 tyOk_own cells_own0 cellsS_own0 appO_own1
end AF
end
section
namespace AF
open Go
def LowI(h hh:wh):Prop:=hh.length=h.length∧ ∀o∈hh,o∈h∨(lowO h.length o∧lowO (h.length+1) o)
theorem LowI.refl(h:wh):LowI h h:=⟨rfl,λ_ ho=> .inl ho⟩
theorem kT{hh tl:wh}{o:AObj}{k:Nat}(h:hh.length=k):qu k (hh++o::tl)=some o:=by subst h;exact getO_app0
theorem qbO{hh tl:wh}{o o':AObj}{k:Nat}(h:hh.length=k):qt k (hh++o::tl) o'=hh++o'::tl:=by subst h;exact setO_app0
def qnH(P:Program)(f:FuncId)(cap:wi)(xs:List wi):Prop:=
 ∀(h:wh) (ts:wi) (L:LInfo) (S:Nat->wh->Prop) (E:LS->wh->Prop),
  (∀i hh,S i hh->LowI h hh)->(∀s hh,E s hh->LowI h hh)->
  (∀i hh tl,(hi:i<xs.length)->S i hh->kr P h.length (xs[i]) (hh++ .lp .ready ts L::tl) (λr h'=> ∃hh',(r= .bool true∧S (i+1) hh'∧h'=hh'++ .lp .ready ts L::tl)∨(∃s,r= .bool false∧E s hh'∧h'=hh'++ .lp s ts L::tl)))->
  S 0 h->(∀c∈ts,qV (h.length+1) c=true)->
  jj P f (.yld h.length::cap) (h++ [.lp .ready ts L]) (λ_ h'=> ∃hh,(S xs.length hh∧h'=hh++ [.lp .ready ts L])∨ ∃s,E s hh∧h'=hh++ [.lp s ts L])
theorem qie{P:Program}{f:FuncId}{cap:wi}{xs:List wi}(hf:qnH P f cap xs){ps:List Nat}{b:Nat}{x y:C}{Q:Ex->Nx}{ts:wi}{h:wh}(hps: ∀a∈xs,a.length=ps.length)
  (S:Nat->wh->Prop) (E:Ex->wh->Prop) (hS: ∀i hh,S i hh->LowI h hh) (hE: ∀s hh,E s hh->LowI h hh)
  (start:S 0 h) (hts: ∀c∈ts,qV (h.length+1) c=true)
  (body: ∀i hh tl L,(hi:i<xs.length)->S i hh->hh.length=h.length->
   ze P b x (λe t2 h2=>e= .normal∧h2=hh++ .lp .ready ts L::tl∧
    ze P b y (λe t3 h3=> ∃hh',h3=hh'++ .lp .busy ts L::tl∧hh'.length=h.length∧match e with
     | .normal=>S (i+1) hh'
     | .ret=>E .ret hh'
     | .exit id=>E (.exit id) hh') t2 (hh++ .lp .busy ts L::tl)) (kN ts ps (xs[i])) (hh++ .lp .ready ts L::tl))
  (done: ∀hh,S xs.length hh->Q .normal ts hh) (doneE: ∀e hh,E e hh->match e with
   | .normal=>False
   |e=>Q e ts hh):
  qeV P (.fn (.func f) [] cap) ps (ze P b x) (ze P b y) Q ts h:=by
 intro L hy;show jj _ _ _ _ _;have key:=hf h ts L S (λs hh=>match s with
  | .ret=>E .ret hh
  | .exit id=>E (.exit id) hh
  |_=>False) hS
  (by
   intro s hh hs;cases s with
   |ret=>exact hE _ _ hs
   |exit id=>exact hE _ _ hs
   |ready=>exact hs.elim
   |busy=>exact hs.elim)
  (by
   intro i hh tl hi i4;have hlen:=(hS _ _ i4).1;refine hy h.length ts _ _ _ (kT hlen) (hps _ (List.getElem_mem hi)) ?_;have hb:=body i hh tl L hi i4 hlen;refine U4 ?_ hb;rintro e t2 h2 ⟨rfl,rfl,h3⟩;refine⟨rfl,⟨ts,kT hlen⟩,λts' hts'=> ?_⟩;rw[kT hlen]at hts';cases hts';rw[qbO hlen];refine U4 ?_ h3;rintro e t3 h3' ⟨hh',rfl,g1,g2⟩;refine⟨ts,kT g1,?_⟩;cases e with
   |normal=>exact⟨hh',.inl ⟨rfl,g2,qbO g1⟩⟩
   |ret=>exact⟨hh',.inr ⟨.ret,rfl,g2,qbO g1⟩⟩
   |exit id=>exact⟨hh',.inr ⟨.exit id,rfl,g2,qbO g1⟩⟩)
  start hts
 refine key.le (qbb.refl _) ?_;rintro v h' ⟨hh,⟨g1,rfl⟩|⟨s,g1,rfl⟩⟩
 ·have hl:=hS _ _ g1;exact⟨v,VLe.refl _,hh,.ready,ts,L,rfl,hl.1,λo ho=>(hl.2 o ho).imp (λh=>h) And.left,done hh g1⟩
 ·cases s with
  |ready=>exact g1.elim
  |busy=>exact g1.elim
  |ret=>
   have hl:=hE _ _ g1;exact⟨v,VLe.refl _,hh,.ret,ts,L,rfl,hl.1,λo ho=>(hl.2 o ho).imp (λh=>h) And.left,doneE _ _ g1⟩
  |exit id=>
   have hl:=hE _ _ g1;exact⟨v,VLe.refl _,hh,.exit id,ts,L,rfl,hl.1,λo ho=>(hl.2 o ho).imp (λh=>h) And.left,doneE _ _ g1⟩
theorem qgN{rs:List RV}{h0 h':wh}{K:AV->wh->Prop}{t:wi}{r:AV}(hok:kK t h' rs)(hl:h'.length=h0.length)(hlow: ∀o∈h',o∈h0∨lowO h0.length o)(hK:K r h')
  (hv:VLe (frz (λk=>decide (h0.length<=k)) h' 8 (qfT (jm t h' rs))) r):fnQ rs h0 K .ret t h':=
 ⟨r,h',hK,hok,⟨[],(List.append_nil _).symm⟩,hl,hlow,VOut.of 8 hv⟩
theorem jN{rs:List RV}{h0 h':wh}{K:AV->wh->Prop}{t:wi}{r:AV}(hok:kK t h' rs)(hl:h'.length=h0.length)(hlow: ∀o∈h',o∈h0∨lowO h0.length o)(hK:K r h')
  (hv:VLe (frz (λk=>decide (h0.length<=k)) h' 8 (qfT (jm t h' rs))) r):fnQ rs h0 K .normal t h':=
 ⟨r,h',hK,hok,⟨[],(List.append_nil _).symm⟩,hl,hlow,VOut.of 8 hv⟩
end AF
end
section
namespace AF
open Go
section
variable {P : Program} {b : Nat} {r : List RO} {K : Nx} {t : wi} {h : wh} {xs : List X}
theorem qEg{d:Nat}:opsA P b (⟨some d,none,.b2s,xs⟩::r) K t h=(flags (evs t xs)∧okL h .b2s (strips (evs t xs))∧opsA P b r K (jv d t (valL h .b2s (strips (evs t xs)))) h):=by simp only[opsA,stepO,stepA,R.kd,qY]
theorem qEm{d:Option Nat}:opsA P b (⟨d,none,.s2b,xs⟩::r) K t h=(flags (evs t xs)∧effE b h .s2b (strips (evs t xs)) t d (opsA P b r K)):=by simp only[opsA,stepO,stepA,R.kd]
theorem qC1{nx:wi->wh->Prop}{d:Option Nat}{s:List UInt8}:effE b h .s2b [.str s] t d nx=((s.length:Int)<=140737488355328∧nx (qY t d (.sl s.length λi=> [.int .u8 ((s.getD i 0).toNat:Int)])) h):=(rfl)
end
theorem w_gix{P:Program}{b:Nat}{r:List RO}{K:Nx}{t:wi}{h:wh}{xs:List X}{d:Option Nat}{g n sz:Nat}:opsA P b (⟨d,none,.gix g n sz,xs⟩::r) K t h=(flags (evs t xs)∧effE b h (.gix g n sz) (strips (evs t xs)) t d (opsA P b r K)):=by simp only[opsA,stepO,stepA,R.kd]
attribute [go_sem] w_gix
theorem qrI{b:Nat}{t:wi}{h:wh}{nx:wi->wh->Prop}{d:Option Nat}{g n sz:Nat}{k:IntKind}{i:Int}{cs:wi}(hg:jf h g cs)(h0:0<=i∧i<n)(h2:cs.length=n*sz)(hn:nx (qY t d (.ip ((cs.drop (i.toNat*sz)).take sz))) h):
  effE b h (.gix g n sz) [.int k i] t d nx:=⟨cs,hg,h0,h2,hn⟩
theorem jf.app{h l:wh}{g:Nat}{cs:wi}(hg:jf h g cs):jf (h++l) g cs:=by
 obtain⟨k,bs,G,h1,h2⟩:=hg;exact⟨k,bs,G,by rw[List.getElem?_append_left (List.getElem?_eq_some_iff.1 h1).1];exact h1,h2⟩
theorem UO(c:UInt8):qaD (.int .u8 (c.toNat:Int))=c:=by simp[qaD]
theorem UT(c:UInt8):qc5 (.int .u8 (c.toNat:Int)):=by
 have:=c.toNat_lt
 exact⟨by omega,by omega⟩
theorem jK(s:List UInt8):(zQ s).length=s.length:=by simp[zQ]
theorem qgk{g:wh}:valL g .b2s [.nl]= .str []:=rfl
theorem qh8{g:wh}:okL g .b2s [.nl]=True:=rfl
theorem qff{g:wh}{k v z p n:Nat}:valL g .b2s [.osl k v z p n]= .str (((((cellsOf g k v).getD []).drop p).take n).map qaD):=rfl
theorem qfP{g:wh}{k v z p n:Nat}:okL g .b2s [.osl k v z p n]=(qH g k v=true∧z=1∧p+n<=((cellsOf g k v).getD []).length∧ ∀c∈((((cellsOf g k v).getD []).drop p).take n),qc5 c):=rfl
theorem qun{x:AV}{q:Bool}:kp (.bool false) x (.bool q)= .bool q:=by
 unfold kp;simp only[AV.strip,qaB];split
 ·rename_i p' q' h1 h2;cases h2;simp
 ·simp
theorem qup{y:AV}{p:Bool}:kp (.bool true) (.bool p) y= .bool p:=by
 unfold kp;simp only[AV.strip,qaB];split
 ·rename_i p' q' h1 h2;cases h1;simp
 ·simp
attribute [go_sem] qun qup
theorem qj8{P:Program}{f:FuncId}{first cap args:wi}{d:Option Nat}{nx:Nx}{t:wi}{h:wh}{R:AV->wh->Prop}(hc:jj P f (first++args++cap) h R)(hn: ∀v h',R v h'->nx (qY t d v) h'):qaE P (.fn (.func f) first cap::args) d nx t h:=⟨R,hc,hn⟩
theorem qI{P:Program}{f:Nat}{first cap args:wi}{d:Option Nat}{nx:Nx}{t:wi}{h:wh}{v:AV}(hc:ACalls P f (first++args++cap) h v h)(hn:nx (qY t d v) h):qaE P (.fn (.func f) first cap::args) d nx t h:=⟨_,hc.toQ,by rintro _ _ ⟨rfl,rfl⟩;exact hn⟩
attribute [go_sem] qEg qEm qC1 qgk qh8 qff qfP
end AF
end
section
namespace AF
open Go
section
variable {P : Program} {b : Nat} {r : List RO} {K : Nx} {t : wi} {h : wh} {xs : List X}
end
theorem valL_capnl{g:wh}:valL g .cap [.nl]= .int .i64 0:=rfl
theorem qlC{g:wh}:okL g .cap [.nl]=True:=rfl
theorem qiU{g:wh}{z:Nat}{lo hi:Bool}{bs:wi}:valL g (.slc z lo hi) (.nl::bs)= .nl:=rfl
attribute [go_sem] valL_capnl qlC qiU
end AF
end
section
namespace AF
open Go
section
variable {P : Program} {b : Nat} {K : Nx} {t : wi} {h : wh}
theorem t_nil:qbV P b .nil K t h=K t h:=(rfl)
theorem t_one{o:RO}{r:DT}:qbV P b (.one o r) K t h=opsA P b [o] (qbV P b r K) t h:=(rfl)
theorem t_two{x y:DT}:qbV P b (.two x y) K t h=(qbV P b x K t h∧qbV P b y K t h):=(rfl)
theorem t_univ{r:DT}{d:Option Nat}{xs:List X}:qbV P b (.uni ⟨d,none,.callv,xs⟩ r) K t h=qj6 P (evs t xs) d (qbV P b r K) t h:=(rfl)
theorem qj7{f:Nat}{first cap args:wi}{d:Option Nat}{nx:Nx}{v:AV}(hc:ACalls P f (first++strips args++cap) h v h)(hf:flags (.fn (.func f) first cap::args))(hn:nx (qY t d v) h):qj6 P (.fn (.func f) first cap::args) d nx t h:=⟨hf,v,hc,hn⟩
theorem t_uni{r:DT}{d:Option Nat}{f:Nat}{p:Bool}{xs:List X}:qbV P b (.uni ⟨d,none,.call f p,xs⟩ r) K t h=qok P f (evs t xs) d (qbV P b r K) t h:=(rfl)
theorem kl{d:DT}{Q:Ex->Nx}(T:wi)(H:wh)(h1:qbV P b d (λt' h'=>t'=T∧h'=H) t h)(h2:Q .normal T H):ze P b (.draw d) Q t h:=
 ⟨_,h1,λt' h' ⟨e1,e2⟩=>by subst e1;subst e2;exact h2⟩
theorem qol{f:Nat}{vs:wi}{d:Option Nat}{nx:Nx}{r:AV}(hc: ∀h0,ACalls P f (strips vs) h0 r h0)(hf:flags vs)(hn:nx (qY t d r) h):qok P f vs d nx t h:=⟨hf,r,hc,hn⟩
end
attribute [go_sem] t_univ t_nil t_one t_two t_uni
end AF
end
section
namespace AF
open Go
section
variable {P : Program} {b : Nat} {r : List RO} {K : Nx} {t : wi} {h l : wh} {xs : List X} {ks : AK} {ok : Bool} {z : AV} {d : Option Nat} {nx : wi -> wh -> Prop}
theorem w_cpy{sz:Nat}:opsA P b (⟨d,none,.cpy sz,xs⟩::r) K t h=(flags (evs t xs)∧effE b h (.cpy sz) (strips (evs t xs)) t d (opsA P b r K)):=by simp only[opsA,stepO,stepA,R.kd]
theorem e_cpy{sz sz' k ver off m:Nat}{y:AV}:effE b h (.cpy sz) [.osl k ver sz' off m,y] t d nx=((qH h k ver=true∧(cellsOf h k ver).isSome=true∧sz'=sz∧off+m*sz<=((cellsOf h k ver).getD []).length∧(ql h y).isSome=true∧((ql h y).getD (0,[])).2.length=((ql h y).getD (0,[])).1*sz)∧
  nx (qY t d (.int .i64 ((min ((ql h y).getD (0,[])).1 m:Nat):Int))) (qt k h (.mem ver (qnO (qu k h)) (((cellsOf h k ver).getD []).take off++((ql h y).getD (0,[])).2.take (min ((ql h y).getD (0,[])).1 m*sz)++((cellsOf h k ver).getD []).drop (off+min ((ql h y).getD (0,[])).1 m*sz))))):=(rfl)
end
section
variable {h l : wh} {ks : AK} {ok : Bool} {z x : AV} {k ver n v w : Nat} {es : List (AV × AV)} {o : AObj}
theorem strip_mp:(AV.mp k v).strip=AV.mp k v:=rfl
theorem flag_mp:(AV.mp k v).flag=true:=rfl
theorem solid_mp:(AV.mp k v).solid=true:=rfl
theorem cells_mp:(AV.mp k v).cells= [AV.mp k v]:=rfl
theorem frz_mp{fz:Nat->Bool}:frz fz h (n+1) (.mp k v)=if fz k then .undef else .mp k v:=rfl
end
attribute [go_sem] w_cpy e_cpy strip_mp flag_mp solid_mp cells_mp frz_mp
section
variable {P : Program} {b : Nat} {r : List RO} {K : Nx} {t : wi} {h : wh} {xs : List X} {d : Nat}
end
theorem valP_idxI{z n:Nat}{f:Nat->wi}{k:IntKind}{i:Int}:valP (.idxI z) [.sl n f,.int k i]= .ip (f i.toNat):=rfl
theorem qpG{z n:Nat}{f:Nat->wi}{k:IntKind}{i:Int}:okP (.idxI z) [.sl n f,.int k i]=((0<=i∧i<n)∧(f i.toNat).length=z):=rfl
theorem qnq{z:Nat}{cs:wi}:valP (.fldI z) [.ip cs]= .ip (cs.drop z):=rfl
theorem qpF{z:Nat}{cs:wi}:okP (.fldI z) [.ip cs]=(z<cs.length):=rfl
theorem qiW{z:Option Nat}{cs:wi}:valP (.loadI z) [.ip cs]=cut cs 0 z:=rfl
theorem qlK{z:Option Nat}{cs:wi}:okP (.loadI z) [.ip cs]=kv cs 0 z:=rfl
attribute [go_sem] valP_idxI qpG qnq qpF qiW qlK
end AF
end
theorem gdqA{α:Type _}{l:List α}{i:Nat}{a:α}:l.getD i a=l[i]?.getD a:=List.getD_eq_getElem?_getD
theorem zD{α:Type _}{l:List α}{i:Nat}(h:i<l.length):l[i]? =some l[i]:=List.getElem?_eq_getElem h
theorem qi{v:AF.AV}:AF.VLe v v:=AF.VLe.refl v
theorem aiA{p q:Prop}(z_1:p)(z_2:q):p∧q:=⟨z_1,z_2⟩
theorem eqt{p : Prop}(h : p) : p = True := eq_true h
theorem eqf{p : Prop}(h : ¬p) : p = False := eq_false h
theorem dqt{p : Prop}[Decidable p](h : p) : decide p = true := decide_eq_true h
theorem dqf{p : Prop}[Decidable p](h : ¬p) : decide p = false := decide_eq_false h
theorem ipo{c : Prop}{h : Decidable c}(hc : c){α : Sort _}{t e : α} : ite c t e = t := if_pos hc
theorem ine{c : Prop}{h : Decidable c}(hc : ¬c){α : Sort _}{t e : α} : ite c t e = e := if_neg hc
theorem nzl(n : Nat) : 0 <= n := Nat.zero_le n
theorem nlr(n : Nat) : n <= n := Nat.le_refl n
theorem nnz(n : Nat) : ¬n < 0 := Nat.not_lt_zero n
theorem lap{α : Type _}{as bs : List α} : (as ++ bs).length = as.length + bs.length := List.length_append
theorem lnl{α : Type _} : ([] : List α).length = 0 := rfl
theorem lco{α : Type _}{a : α}{as : List α} : (a :: as).length = as.length + 1 := rfl
theorem lan{α : Type _}(as : List α) : as ++ [] = as := List.append_nil as
theorem lna{α : Type _}(as : List α) : [] ++ as = as := rfl
theorem lca{α : Type _}{a : α}{as bs : List α} : (a :: as) ++ bs = a :: (as ++ bs) := rfl
theorem itn(n : Nat) : ((n : Int)).toNat = n := rfl
theorem lgs{α : Type _}{a : α}{i : Nat}{l : List α} : l[i]? = some a ↔ ∃ h : i < l.length, l[i] = a := List.getElem?_eq_some_iff
theorem ltl{α : Type _}{i : Nat}{l : List α}(h : l.length <= i) : l.take i = l := List.take_of_length_le h
theorem om{p : Prop}(h : p := by omega) : p := h
open Go AF
theorem we{p:Prop}(h:p:=by repeat' first|(with_reducible apply aiA)|(apply qg;omega)|(apply qd;rfl)|exact qi):p:=h
theorem wg{α:Sort _}(e:α): ∃R,R=e:=⟨_,rfl⟩
theorem wj{p:Prop}(h:p:=by omega):p=True:=eq_true h
theorem wl{p:Prop}(h: ¬p:=by omega):p=False:=eq_false h
