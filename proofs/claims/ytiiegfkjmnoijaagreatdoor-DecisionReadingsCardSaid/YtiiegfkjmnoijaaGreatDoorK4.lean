import Derived.Test.YtiiegfkjmnoijaaGreatDoorK2
import Derived.Test.YtiiegfkjmnoijaaGreatDoorK3
import Derived.Below
import Derived.ChangeSame
import Derived.ChangeShapes
import Derived.CallsIn
import Derived.Carry
import Derived.RowKit
import Derived.WalkKit
import Derived.ProofKit
set_option linter.all false
section
namespace AF
open Go
set_option maxRecDepth 4000
def Re(k:IntKind)(a c:Int):Int:=k.wrap (a*2^(min c.toNat k.bits))
def BM(k:IntKind)(a c:Int):Int:=a.fdiv (2^(min c.toNat k.bits))
def QE(k:IntKind)(a c:Int):Int:=k.wrap (BitVec.ofInt k.bits a&&&BitVec.ofInt k.bits c).toNat
def orK(k:IntKind)(a c:Int):Int:=k.wrap (BitVec.ofInt k.bits a|||BitVec.ofInt k.bits c).toNat
def RP(k:IntKind)(a c:Int):Int:=k.wrap (BitVec.ofInt k.bits a^^^BitVec.ofInt k.bits c).toNat
def WM(k:IntKind)(a c:Int):Int:=k.wrap (BitVec.ofInt k.bits a&&& ~~~ BitVec.ofInt k.bits c).toNat
theorem Gy{a0:AV}{r:Qt}:zE 0 (a0::r)=a0:=rfl
theorem HJ{a0 v:AV}{r:Qt}:ji 0 (a0::r) v=v::r:=rfl
theorem Gz{a0 a1:AV}{r:Qt}:zE 1 (a0::a1::r)=a1:=rfl
theorem HK{a0 a1 v:AV}{r:Qt}:ji 1 (a0::a1::r) v=a0::v::r:=rfl
theorem GE{a0 a1 a2:AV}{r:Qt}:zE 2 (a0::a1::a2::r)=a2:=rfl
theorem HL{a0 a1 a2 v:AV}{r:Qt}:ji 2 (a0::a1::a2::r) v=a0::a1::v::r:=rfl
theorem GF{a0 a1 a2 a3:AV}{r:Qt}:zE 3 (a0::a1::a2::a3::r)=a3:=rfl
theorem HM{a0 a1 a2 a3 v:AV}{r:Qt}:ji 3 (a0::a1::a2::a3::r) v=a0::a1::a2::v::r:=rfl
theorem GG{a0 a1 a2 a3 a4:AV}{r:Qt}:zE 4 (a0::a1::a2::a3::a4::r)=a4:=rfl
theorem HN{a0 a1 a2 a3 a4 v:AV}{r:Qt}:ji 4 (a0::a1::a2::a3::a4::r) v=a0::a1::a2::a3::v::r:=rfl
theorem GH{a0 a1 a2 a3 a4 a5:AV}{r:Qt}:zE 5 (a0::a1::a2::a3::a4::a5::r)=a5:=rfl
theorem HO{a0 a1 a2 a3 a4 a5 v:AV}{r:Qt}:ji 5 (a0::a1::a2::a3::a4::a5::r) v=a0::a1::a2::a3::a4::v::r:=rfl
theorem GI{a0 a1 a2 a3 a4 a5 a6:AV}{r:Qt}:zE 6 (a0::a1::a2::a3::a4::a5::a6::r)=a6:=rfl
theorem HQ{a0 a1 a2 a3 a4 a5 a6 v:AV}{r:Qt}:ji 6 (a0::a1::a2::a3::a4::a5::a6::r) v=a0::a1::a2::a3::a4::a5::v::r:=rfl
theorem GK{a0 a1 a2 a3 a4 a5 a6 a7:AV}{r:Qt}:zE 7 (a0::a1::a2::a3::a4::a5::a6::a7::r)=a7:=rfl
theorem HS{a0 a1 a2 a3 a4 a5 a6 a7 v:AV}{r:Qt}:ji 7 (a0::a1::a2::a3::a4::a5::a6::a7::r) v=a0::a1::a2::a3::a4::a5::a6::v::r:=rfl
theorem X9{n:Nat}{a0 a1 a2 a3 a4 a5 a6 a7:AV}{r:Qt}:zE (n+8) (a0::a1::a2::a3::a4::a5::a6::a7::r)=zE n r:=rfl
theorem Ah{n:Nat}{a0 a1 a2 a3 a4 a5 a6 a7 v:AV}{r:Qt}:ji (n+8) (a0::a1::a2::a3::a4::a5::a6::a7::r) v=a0::a1::a2::a3::a4::a5::a6::a7::ji n r v:=rfl
theorem Z4{n:Nat}{a0 a1 a2 a3 a4 a5 a6 a7 a8 a9 a10 a11 a12 a13 a14 a15 a16 a17 a18 a19 a20 a21 a22 a23 a24 a25 a26 a27 a28 a29 a30 a31:AV}{r:Qt}:zE (n+32) (a0::a1::a2::a3::a4::a5::a6::a7::a8::a9::a10::a11::a12::a13::a14::a15::a16::a17::a18::a19::a20::a21::a22::a23::a24::a25::a26::a27::a28::a29::a30::a31::r)=zE n r:=rfl
theorem Kx{n:Nat}{a0 a1 a2 a3 a4 a5 a6 a7 a8 a9 a10 a11 a12 a13 a14 a15 a16 a17 a18 a19 a20 a21 a22 a23 a24 a25 a26 a27 a28 a29 a30 a31 v:AV}{r:Qt}:ji (n+32) (a0::a1::a2::a3::a4::a5::a6::a7::a8::a9::a10::a11::a12::a13::a14::a15::a16::a17::a18::a19::a20::a21::a22::a23::a24::a25::a26::a27::a28::a29::a30::a31::r) v=a0::a1::a2::a3::a4::a5::a6::a7::a8::a9::a10::a11::a12::a13::a14::a15::a16::a17::a18::a19::a20::a21::a22::a23::a24::a25::a26::a27::a28::a29::a30::a31::ji n r v:=rfl
theorem OZ{t:Qt}{n:Nat}:ev t (.t n)=zE n t:=rfl
theorem OY{t:Qt}{v:AV}:ev t (.c v)=v:=rfl
theorem mX{b:Bool}:(AV.bool b).strip=(AV.bool b):=rfl
theorem rB{b:Bool}:(AV.bool b).flag=true:=rfl
theorem mJ{b:Bool}:(AV.bool b).solid=true:=rfl
theorem lz{b:Bool}:(AV.bool b).cells= [(AV.bool b)]:=rfl
theorem uK{k:IntKind}{n:Int}:(AV.int k n).strip=(AV.int k n):=rfl
theorem ZI{k:IntKind}{n:Int}:(AV.int k n).flag=true:=rfl
theorem ur{k:IntKind}{n:Int}:(AV.int k n).solid=true:=rfl
theorem pP{k:IntKind}{n:Int}:(AV.int k n).cells= [(AV.int k n)]:=rfl
theorem uO{s:List UInt8}:(AV.str s).strip=(AV.str s):=rfl
theorem ZM{s:List UInt8}:(AV.str s).flag=true:=rfl
theorem uw{s:List UInt8}:(AV.str s).solid=true:=rfl
theorem pT{s:List UInt8}:(AV.str s).cells= [(AV.str s)]:=rfl
theorem KZ{n:Nat}{f:Nat->Qt}:(AV.sl n f).strip=(AV.sl n f):=rfl
theorem XR{n:Nat}{f:Nat->Qt}:(AV.sl n f).flag=true:=rfl
theorem KI{n:Nat}{f:Nat->Qt}:(AV.sl n f).solid=true:=rfl
theorem Zn{n:Nat}{f:Nat->Qt}:(AV.sl n f).cells= [(AV.sl n f)]:=rfl
theorem uM{k v s p l:Nat}:(AV.osl k v s p l).strip=(AV.osl k v s p l):=rfl
theorem ZK{k v s p l:Nat}:(AV.osl k v s p l).flag=true:=rfl
theorem uu{k v s p l:Nat}:(AV.osl k v s p l).solid=true:=rfl
theorem pR{k v s p l:Nat}:(AV.osl k v s p l).cells= [(AV.osl k v s p l)]:=rfl
theorem uI{c:Qt}:(AV.agg c).strip=(AV.agg c):=rfl
theorem ZG{c:Qt}:(AV.agg c).flag=true:=rfl
theorem uo{c:Qt}:(AV.agg c).solid=true:=rfl
theorem uP{c:Qt}:(AV.tup c).strip=(AV.tup c):=rfl
theorem ZN{c:Qt}:(AV.tup c).flag=true:=rfl
theorem pU{c:Qt}:(AV.tup c).cells= [(AV.tup c)]:=rfl
theorem KW{c:Qt}:(AV.ip c).strip=(AV.ip c):=rfl
theorem XO{c:Qt}:(AV.ip c).flag=true:=rfl
theorem KF{c:Qt}:(AV.ip c).solid=true:=rfl
theorem Zk{c:Qt}:(AV.ip c).cells= [(AV.ip c)]:=rfl
theorem KY{k v p:Nat}:(AV.op k v p).strip=(AV.op k v p):=rfl
theorem XQ{k v p:Nat}:(AV.op k v p).flag=true:=rfl
theorem KH{k v p:Nat}:(AV.op k v p).solid=true:=rfl
theorem Zm{k v p:Nat}:(AV.op k v p).cells= [(AV.op k v p)]:=rfl
theorem nf  :AV.nilp.strip=AV.nilp:=rfl
theorem rF  :AV.nilp.flag=true:=rfl
theorem mM  :AV.nilp.solid=true:=rfl
theorem lE  :AV.nilp.cells= [AV.nilp]:=rfl
theorem KX  :AV.nl.strip=AV.nl:=rfl
theorem XP  :AV.nl.flag=true:=rfl
theorem KG  :AV.nl.solid=true:=rfl
theorem Zl  :AV.nl.cells= [AV.nl]:=rfl
theorem KU{f:Fn}{a c:Qt}:(AV.fn f a c).strip=(AV.fn f a c):=rfl
theorem XM{f:Fn}{a c:Qt}:(AV.fn f a c).flag=true:=rfl
theorem KE{f:Fn}{a c:Qt}:(AV.fn f a c).solid=true:=rfl
theorem Zi{f:Fn}{a c:Qt}:(AV.fn f a c).cells= [(AV.fn f a c)]:=rfl
theorem uQ{k:Nat}:(AV.yld k).strip=(AV.yld k):=rfl
theorem ZO{k:Nat}:(AV.yld k).flag=true:=rfl
theorem ux{k:Nat}:(AV.yld k).solid=true:=rfl
theorem pV{k:Nat}:(AV.yld k).cells= [(AV.yld k)]:=rfl
theorem fX  :AV.nilfn.strip=AV.nilfn:=rfl
theorem lV  :AV.nilfn.flag=true:=rfl
theorem fN  :AV.nilfn.solid=true:=rfl
theorem fg  :AV.nilfn.cells= [AV.nilfn]:=rfl
theorem uJ  :AV.ifc.strip=AV.ifc:=rfl
theorem ZH  :AV.ifc.flag=true:=rfl
theorem uq  :AV.ifc.solid=true:=rfl
theorem pO  :AV.ifc.cells= [AV.ifc]:=rfl
theorem fY  :AV.nilif.strip=AV.nilif:=rfl
theorem lW  :AV.nilif.flag=true:=rfl
theorem fO  :AV.nilif.solid=true:=rfl
theorem fh  :AV.nilif.cells= [AV.nilif]:=rfl
theorem f5:AV.undef.strip=AV.undef:=rfl
theorem lZ:AV.undef.flag=true:=rfl
theorem pN{c:Qt}:(AV.agg c).cells=c:=rfl
theorem KV{g:Bool}{v:AV}:(AV.gd g v).strip=v:=rfl
theorem XN{g:Bool}{v:AV}:(AV.gd g v).flag=g:=rfl
theorem RA{P:Program}{b:Nat}{r:List RO}{K:Nx}{t:Qt}{h:up}{d:Nat} {x:X}:opsA P b (⟨some d,none,.mv,[x]⟩::r) K t h=((ev t x).flag=true∧opsA P b r K (ji d t ((ev t x).strip)) h):=by simp only[opsA,stepO,stepA,R.kd,evs,flags,strips,qT,okP,okL,valP,valL,and_true,true_and,and_assoc]
theorem NS{P:Program}{b:Nat}{r:List RO}{K:Nx}{t:Qt}{h:up}{d:Nat} {x:X}{j:Nat}{u:Bool}:opsA P b (⟨some d,some (j,u),.mv,[x]⟩::r) K t h=(zy (zE j t)=true∧(qO (zE j t) u=true->(ev t x).flag=true)∧opsA P b r K (ji d t (.gd (qO (zE j t) u) ((ev t x).strip))) h):=by simp only[opsA,stepO,kt,R.kd,evs,flags,strips,qT,okP,okL,valP,valL,and_true,true_and,and_assoc]
theorem NJ{P:Program}{b:Nat}{r:List RO}{K:Nx}{t:Qt}{h:up}{d:Nat}{q:BinOp}{x y:X}:opsA P b (⟨some d,none,.bin q,[x,y]⟩::r) K t h=((ev t x).flag=true∧(ev t y).flag=true∧vC q (ev t x).strip (ev t y).strip∧opsA P b r K (ji d t (vy q (ev t x).strip (ev t y).strip)) h):=by simp only[opsA,stepO,stepA,R.kd,evs,flags,strips,qT,okP,okL,valP,valL,and_true,true_and,and_assoc]
theorem II{P:Program}{b:Nat}{r:List RO}{K:Nx}{t:Qt}{h:up}{d:Nat}{q:BinOp}{x y:X}{j:Nat}{u:Bool}:opsA P b (⟨some d,some (j,u),.bin q,[x,y]⟩::r) K t h=(zy (zE j t)=true∧(qO (zE j t) u=true->(ev t x).flag=true∧(ev t y).flag=true∧vC q (ev t x).strip (ev t y).strip)∧opsA P b r K (ji d t (.gd (qO (zE j t) u) (vy q (ev t x).strip (ev t y).strip))) h):=by simp only[opsA,stepO,kt,R.kd,evs,flags,strips,qT,okP,okL,valP,valL,and_true,true_and,and_assoc]
theorem RB{P:Program}{b:Nat}{r:List RO}{K:Nx}{t:Qt}{h:up}{d:Nat}{q:UnOp}{xs:List X}:opsA P b (⟨some d,none,.un q,xs⟩::r) K t h=(flags (evs t xs)∧okP (.un q) (strips (evs t xs))∧opsA P b r K (ji d t (valP (.un q) (strips (evs t xs)))) h):=by simp only[opsA,stepO,stepA,R.kd,qT]
theorem NT{P:Program}{b:Nat}{r:List RO}{K:Nx}{t:Qt}{h:up}{d:Nat}{q:UnOp}{xs:List X}{j:Nat}{u:Bool}:opsA P b (⟨some d,some (j,u),.un q,xs⟩::r) K t h=(zy (zE j t)=true∧(qO (zE j t) u=true->flags (evs t xs)∧okP (.un q) (strips (evs t xs)))∧opsA P b r K (ji d t (.gd (qO (zE j t) u) (valP (.un q) (strips (evs t xs))))) h):=by simp only[opsA,stepO,kt,R.kd,qT]
theorem Ir{P:Program}{b:Nat}{r:List RO}{K:Nx}{t:Qt}{h:up}{d:Nat}{k:IntKind}{xs:List X}:opsA P b (⟨some d,none,.conv k,xs⟩::r) K t h=(flags (evs t xs)∧okP (.conv k) (strips (evs t xs))∧opsA P b r K (ji d t (valP (.conv k) (strips (evs t xs)))) h):=by simp only[opsA,stepO,stepA,R.kd,qT]
theorem AT{P:Program}{b:Nat}{r:List RO}{K:Nx}{t:Qt}{h:up}{d:Nat}{k:NK}{n:Bool}{xs:List X}:opsA P b (⟨some d,none,.isnil k n,xs⟩::r) K t h=(flags (evs t xs)∧okP (.isnil k n) (strips (evs t xs))∧opsA P b r K (ji d t (valP (.isnil k n) (strips (evs t xs)))) h):=by simp only[opsA,stepO,stepA,R.kd,qT]
theorem NM{P:Program}{b:Nat}{r:List RO}{K:Nx}{t:Qt}{h:up}{d:Nat}{i:Nat}{xs:List X}:opsA P b (⟨some d,none,.ext i,xs⟩::r) K t h=(flags (evs t xs)∧okP (.ext i) (strips (evs t xs))∧opsA P b r K (ji d t (valP (.ext i) (strips (evs t xs)))) h):=by simp only[opsA,stepO,stepA,R.kd,qT]
theorem AQ{P:Program}{b:Nat}{r:List RO}{K:Nx}{t:Qt}{h:up}{d:Nat}{z:Qt}{ps:List (Nat×Nat)}{xs:List X}:opsA P b (⟨some d,none,.build z ps,xs⟩::r) K t h=(flags (evs t xs)∧okP (.build z ps) (strips (evs t xs))∧opsA P b r K (ji d t (valP (.build z ps) (strips (evs t xs)))) h):=by simp only[opsA,stepO,stepA,R.kd,qT]
theorem Vw{P:Program}{b:Nat}{r:List RO}{K:Nx}{t:Qt}{h:up}{d:Nat}{z:Qt}{ps:List (Nat×Nat)}{xs:List X}{j:Nat}{u:Bool}:opsA P b (⟨some d,some (j,u),.build z ps,xs⟩::r) K t h=(zy (zE j t)=true∧(qO (zE j t) u=true->flags (evs t xs)∧okP (.build z ps) (strips (evs t xs)))∧opsA P b r K (ji d t (.gd (qO (zE j t) u) (valP (.build z ps) (strips (evs t xs))))) h):=by simp only[opsA,stepO,kt,R.kd,qT]
theorem Iw{P:Program}{b:Nat}{r:List RO}{K:Nx}{t:Qt}{h:up}{d:Nat}{f:Fn}{n:Nat}{xs:List X}:opsA P b (⟨some d,none,.mkfn f n,xs⟩::r) K t h=(flags (evs t xs)∧okP (.mkfn f n) (strips (evs t xs))∧opsA P b r K (ji d t (valP (.mkfn f n) (strips (evs t xs)))) h):=by simp only[opsA,stepO,stepA,R.kd,qT]
theorem IA{P:Program}{b:Nat}{r:List RO}{K:Nx}{t:Qt}{h:up}{d:Nat} {xs:List X}:opsA P b (⟨some d,none,.slen,xs⟩::r) K t h=(flags (evs t xs)∧okP (.slen) (strips (evs t xs))∧opsA P b r K (ji d t (valP (.slen) (strips (evs t xs)))) h):=by simp only[opsA,stepO,stepA,R.kd,qT]
theorem Bt{P:Program}{b:Nat}{r:List RO}{K:Nx}{t:Qt}{h:up}{d:Nat} {xs:List X}{j:Nat}{u:Bool}:opsA P b (⟨some d,some (j,u),.slen,xs⟩::r) K t h=(zy (zE j t)=true∧(qO (zE j t) u=true->flags (evs t xs)∧okP (.slen) (strips (evs t xs)))∧opsA P b r K (ji d t (.gd (qO (zE j t) u) (valP (.slen) (strips (evs t xs))))) h):=by simp only[opsA,stepO,kt,R.kd,qT]
theorem Iz{P:Program}{b:Nat}{r:List RO}{K:Nx}{t:Qt}{h:up}{d:Nat} {xs:List X}:opsA P b (⟨some d,none,.sidx,xs⟩::r) K t h=(flags (evs t xs)∧okP (.sidx) (strips (evs t xs))∧opsA P b r K (ji d t (valP (.sidx) (strips (evs t xs)))) h):=by simp only[opsA,stepO,stepA,R.kd,qT]
theorem Im{P:Program}{b:Nat}{r:List RO}{K:Nx}{t:Qt}{h:up}{d n1 n2:Nat}{n3:Option Nat} {xs:List X}:opsA P b (⟨some d,none,(.aidx n1 n2 n3),xs⟩::r) K t h=(flags (evs t xs)∧okP (.aidx n1 n2 n3) (strips (evs t xs))∧opsA P b r K (ji d t (valP (.aidx n1 n2 n3) (strips (evs t xs)))) h):=by simp only[opsA,stepO,stepA,R.kd,qT]
theorem Bq{P:Program}{b:Nat}{r:List RO}{K:Nx}{t:Qt}{h:up}{d:Nat} {xs:List X}{j:Nat}{u:Bool}:opsA P b (⟨some d,some (j,u),.sidx,xs⟩::r) K t h=(zy (zE j t)=true∧(qO (zE j t) u=true->flags (evs t xs)∧okP (.sidx) (strips (evs t xs)))∧opsA P b r K (ji d t (.gd (qO (zE j t) u) (valP (.sidx) (strips (evs t xs))))) h):=by simp only[opsA,stepO,kt,R.kd,qT]
theorem IB{P:Program}{b:Nat}{r:List RO}{K:Nx}{t:Qt}{h:up}{d:Nat}{lo hi:Bool}{xs:List X}:opsA P b (⟨some d,none,.sslc lo hi,xs⟩::r) K t h=(flags (evs t xs)∧okP (.sslc lo hi) (strips (evs t xs))∧opsA P b r K (ji d t (valP (.sslc lo hi) (strips (evs t xs)))) h):=by simp only[opsA,stepO,stepA,R.kd,qT]
theorem Bv{P:Program}{b:Nat}{r:List RO}{K:Nx}{t:Qt}{h:up}{d:Nat}{lo hi:Bool}{xs:List X}{j:Nat}{u:Bool}:opsA P b (⟨some d,some (j,u),.sslc lo hi,xs⟩::r) K t h=(zy (zE j t)=true∧(qO (zE j t) u=true->flags (evs t xs)∧okP (.sslc lo hi) (strips (evs t xs)))∧opsA P b r K (ji d t (.gd (qO (zE j t) u) (valP (.sslc lo hi) (strips (evs t xs))))) h):=by simp only[opsA,stepO,kt,R.kd,qT]
theorem Rz{P:Program}{b:Nat}{r:List RO}{K:Nx}{t:Qt}{h:up}{d:Nat}{m:Bool}{xs:List X}:opsA P b (⟨some d,none,.mm m,xs⟩::r) K t h=(flags (evs t xs)∧okP (.mm m) (strips (evs t xs))∧opsA P b r K (ji d t (valP (.mm m) (strips (evs t xs)))) h):=by simp only[opsA,stepO,stepA,R.kd,qT]
theorem NN{P:Program}{b:Nat}{r:List RO}{K:Nx}{t:Qt}{h:up}{d:Nat} {xs:List X}:opsA P b (⟨some d,none,.len,xs⟩::r) K t h=(flags (evs t xs)∧okL h (.len) (strips (evs t xs))∧opsA P b r K (ji d t (valL h (.len) (strips (evs t xs)))) h):=by simp only[opsA,stepO,stepA,R.kd,qT]
theorem IJ{P:Program}{b:Nat}{r:List RO}{K:Nx}{t:Qt}{h:up}{d:Nat} {xs:List X}{j:Nat}{u:Bool}:opsA P b (⟨some d,some (j,u),.len,xs⟩::r) K t h=(zy (zE j t)=true∧(qO (zE j t) u=true->flags (evs t xs)∧okL h (.len) (strips (evs t xs)))∧opsA P b r K (ji d t (.gd (qO (zE j t) u) (valL h (.len) (strips (evs t xs))))) h):=by simp only[opsA,stepO,kt,R.kd,qT]
theorem It{P:Program}{b:Nat}{r:List RO}{K:Nx}{t:Qt}{h:up}{d:Nat}{z:Nat}{xs:List X}:opsA P b (⟨some d,none,.idxA z,xs⟩::r) K t h=(flags (evs t xs)∧okL h (.idxA z) (strips (evs t xs))∧opsA P b r K (ji d t (valL h (.idxA z) (strips (evs t xs)))) h):=by simp only[opsA,stepO,stepA,R.kd,qT]
theorem Bm{P:Program}{b:Nat}{r:List RO}{K:Nx}{t:Qt}{h:up}{d:Nat}{z:Nat}{xs:List X}{j:Nat}{u:Bool}:opsA P b (⟨some d,some (j,u),.idxA z,xs⟩::r) K t h=(zy (zE j t)=true∧(qO (zE j t) u=true->flags (evs t xs)∧okL h (.idxA z) (strips (evs t xs)))∧opsA P b r K (ji d t (.gd (qO (zE j t) u) (valL h (.idxA z) (strips (evs t xs))))) h):=by simp only[opsA,stepO,kt,R.kd,qT]
theorem Is{P:Program}{b:Nat}{r:List RO}{K:Nx}{t:Qt}{h:up}{d:Nat}{p:Nat}{xs:List X}:opsA P b (⟨some d,none,.fldA p,xs⟩::r) K t h=(flags (evs t xs)∧okL h (.fldA p) (strips (evs t xs))∧opsA P b r K (ji d t (valL h (.fldA p) (strips (evs t xs)))) h):=by simp only[opsA,stepO,stepA,R.kd,qT]
theorem Bl{P:Program}{b:Nat}{r:List RO}{K:Nx}{t:Qt}{h:up}{d:Nat}{p:Nat}{xs:List X}{j:Nat}{u:Bool}:opsA P b (⟨some d,some (j,u),.fldA p,xs⟩::r) K t h=(zy (zE j t)=true∧(qO (zE j t) u=true->flags (evs t xs)∧okL h (.fldA p) (strips (evs t xs)))∧opsA P b r K (ji d t (.gd (qO (zE j t) u) (valL h (.fldA p) (strips (evs t xs))))) h):=by simp only[opsA,stepO,kt,R.kd,qT]
theorem Iu{P:Program}{b:Nat}{r:List RO}{K:Nx}{t:Qt}{h:up}{d:Nat}{n:Option Nat}{xs:List X}:opsA P b (⟨some d,none,.load n,xs⟩::r) K t h=(flags (evs t xs)∧okL h (.load n) (strips (evs t xs))∧opsA P b r K (ji d t (valL h (.load n) (strips (evs t xs)))) h):=by simp only[opsA,stepO,stepA,R.kd,qT]
theorem Bn{P:Program}{b:Nat}{r:List RO}{K:Nx}{t:Qt}{h:up}{d:Nat}{n:Option Nat}{xs:List X}{j:Nat}{u:Bool}:opsA P b (⟨some d,some (j,u),.load n,xs⟩::r) K t h=(zy (zE j t)=true∧(qO (zE j t) u=true->flags (evs t xs)∧okL h (.load n) (strips (evs t xs)))∧opsA P b r K (ji d t (.gd (qO (zE j t) u) (valL h (.load n) (strips (evs t xs))))) h):=by simp only[opsA,stepO,kt,R.kd,qT]
theorem Vt{P:Program}{b:Nat}{r:List RO}{K:Nx}{t:Qt}{h:up}{d:Nat} {xs:List X}:opsA P b (⟨some d,none,.nilchk,xs⟩::r) K t h=(flags (evs t xs)∧okL h (.nilchk) (strips (evs t xs))∧opsA P b r K (ji d t (valL h (.nilchk) (strips (evs t xs)))) h):=by simp only[opsA,stepO,stepA,R.kd,qT]
theorem QB{P:Program}{b:Nat}{r:List RO}{K:Nx}{t:Qt}{h:up}{d:Nat} {xs:List X}{j:Nat}{u:Bool}:opsA P b (⟨some d,some (j,u),.nilchk,xs⟩::r) K t h=(zy (zE j t)=true∧(qO (zE j t) u=true->flags (evs t xs)∧okL h (.nilchk) (strips (evs t xs)))∧opsA P b r K (ji d t (.gd (qO (zE j t) u) (valL h (.nilchk) (strips (evs t xs))))) h):=by simp only[opsA,stepO,kt,R.kd,qT]
theorem NR{P:Program}{b:Nat}{r:List RO}{K:Nx}{t:Qt}{h:up}{d:Nat}{z:Nat}{lo hi:Bool}{xs:List X}:opsA P b (⟨some d,none,.slc z lo hi,xs⟩::r) K t h=(flags (evs t xs)∧okL h (.slc z lo hi) (strips (evs t xs))∧opsA P b r K (ji d t (valL h (.slc z lo hi) (strips (evs t xs)))) h):=by simp only[opsA,stepO,stepA,R.kd,qT]
theorem Iy{P:Program}{b:Nat}{r:List RO}{K:Nx}{t:Qt}{h:up}{d:Nat}{c x y:X}:opsA P b (⟨some d,none,.pick,[c,x,y]⟩::r) K t h=(vK (ev t c) (ev t x) (ev t y)∧opsA P b r K (ji d t (jX (ev t c) (ev t x) (ev t y))) h):=by simp only[opsA,stepO,stepA,R.kd,qT,evs]
theorem Bo{P:Program}{b:Nat}{r:List RO}{K:Nx}{t:Qt}{h:up}{d:Nat}{c x y:X}{j:Nat}{u:Bool}:opsA P b (⟨some d,some (j,u),.pick,[c,x,y]⟩::r) K t h=(zy (zE j t)=true∧(qO (zE j t) u=true->vK (ev t c) (ev t x) (ev t y))∧opsA P b r K (ji d t (.gd (qO (zE j t) u) (jX (ev t c) (ev t x) (ev t y)))) h):=by simp only[opsA,stepO,kt,R.kd,qT,evs]
theorem Ix{P:Program}{b:Nat}{r:List RO}{K:Nx}{t:Qt}{h:up}{d:Option Nat}{j z:Nat}{ty:TypeId}{xs:List X}:opsA P b (⟨d,none,.nilo j z ty,xs⟩::r) K t h=(flags (evs t xs)∧effE b h (.nilo j z ty) (strips (evs t xs)) t d (opsA P b r K)):=by simp only[opsA,stepO,stepA,R.kd]
theorem AP{P:Program}{b:Nat}{r:List RO}{K:Nx}{t:Qt}{h:up}{d:Option Nat}{j:Nat}{ty:TypeId}{z:Qt}{xs:List X}:opsA P b (⟨d,none,.alloc j ty z,xs⟩::r) K t h=(flags (evs t xs)∧effE b h (.alloc j ty z) (strips (evs t xs)) t d (opsA P b r K)):=by simp only[opsA,stepO,stepA,R.kd]
theorem NL{P:Program}{b:Nat}{r:List RO}{K:Nx}{t:Qt}{h:up}{d:Option Nat}{j:Nat}{ty:TypeId}{xs:List X}:opsA P b (⟨d,none,.box j ty,xs⟩::r) K t h=(flags (evs t xs)∧effE b h (.box j ty) (strips (evs t xs)) t d (opsA P b r K)):=by simp only[opsA,stepO,stepA,R.kd]
theorem AW{P:Program}{b:Nat}{r:List RO}{K:Nx}{t:Qt}{h:up}{d:Option Nat}{n:Nat}{xs:List X}:opsA P b (⟨d,none,.store n,xs⟩::r) K t h=(flags (evs t xs)∧effE b h (.store n) (strips (evs t xs)) t d (opsA P b r K)):=by simp only[opsA,stepO,stepA,R.kd]
theorem AU{P:Program}{b:Nat}{r:List RO}{K:Nx}{t:Qt}{h:up}{d:Option Nat}{j z m:Nat}{ty:TypeId}{zs:Qt}{xs:List X}:opsA P b (⟨d,none,.mkslc j z ty zs m,xs⟩::r) K t h=(flags (evs t xs)∧effE b h (.mkslc j z ty zs m) (strips (evs t xs)) t d (opsA P b r K)):=by simp only[opsA,stepO,stepA,R.kd]
theorem Ip{P:Program}{b:Nat}{r:List RO}{K:Nx}{t:Qt}{h:up}{d:Option Nat}{j z n:Nat}{ty:TypeId}{zs:Qt}{ps:List (Nat×Nat)}{xs:List X}:opsA P b (⟨d,none,.bslc j z n ty zs ps,xs⟩::r) K t h=(flags (evs t xs)∧effE b h (.bslc j z n ty zs ps) (strips (evs t xs)) t d (opsA P b r K)):=by simp only[opsA,stepO,stepA,R.kd]
theorem NH{P:Program}{b:Nat}{r:List RO}{K:Nx}{t:Qt}{h:up}{d:Option Nat}{j z m:Nat}{ty:TypeId}{xs:List X}:opsA P b (⟨d,none,.app j z ty m,xs⟩::r) K t h=(flags (evs t xs)∧effE b h (.app j z ty m) (strips (evs t xs)) t d (opsA P b r K)):=by simp only[opsA,stepO,stepA,R.kd]
theorem Io{P:Program}{b:Nat}{r:List RO}{K:Nx}{t:Qt}{h:up}{d:Option Nat}{j:Nat}{ty:TypeId}{xs:List X}:opsA P b (⟨d,none,.apps j ty,xs⟩::r) K t h=(flags (evs t xs)∧effE b h (.apps j ty) (strips (evs t xs)) t d (opsA P b r K)):=by simp only[opsA,stepO,stepA,R.kd]
theorem Iq{P:Program}{b:Nat}{r:List RO}{K:Nx}{t:Qt}{h:up}{d:Option Nat}{f:Nat}{p:Bool}{xs:List X}:opsA P b (⟨d,none,.call f p,xs⟩::r) K t h=pA P f p (evs t xs) d (opsA P b r K) t h:=by simp only[opsA,stepO,stepA,R.kd]
theorem Bj{P:Program}{b:Nat}{r:List RO}{K:Nx}{t:Qt}{h:up}{d:Option Nat}{f:Nat}{p:Bool}{xs:List X}{j:Nat}{u:Bool}:opsA P b (⟨d,some (j,u),.call f p,xs⟩::r) K t h=(zy (zE j t)=true∧pB P f p (qO (zE j t) u) (evs t xs) d (opsA P b r K) t h):=by simp only[opsA,stepO,kt,R.kd]
theorem AS{P:Program}{b:Nat}{r:List RO}{K:Nx}{t:Qt}{h:up}{d:Option Nat}{xs:List X}:opsA P b (⟨d,none,.callv,xs⟩::r) K t h=(flags (evs t xs)∧wA P (strips (evs t xs)) d (opsA P b r K) t h):=by simp only[opsA,stepO,stepA,R.kd]
theorem NP{P:Program}{b:Nat}{K:Nx}{t:Qt}{h:up}:opsA P b [] K t h=K t h:=(rfl)
theorem XJ{t:Qt}:evs t []= []:=rfl
theorem ZA{t:Qt}{x:X}{r:List X}:evs t (x::r)=ev t x::evs t r:=rfl
theorem np:strips []= []:=rfl
theorem f6{x:AV}{r:Qt}:strips (x::r)=x.strip::strips r:=rfl
theorem rJ:flags []=True:=rfl
theorem ma{x:AV}{r:Qt}:flags (x::r)=(x.flag=true∧flags r):=rfl
theorem oJ{k l:IntKind}{a c:Int}:vy .add (.int k a) (.int l c)= .int k (k.wrap (a+c)):=rfl
theorem nZ{k l:IntKind}{a c:Int}:vC .add (.int k a) (.int l c)=(k=l):=rfl
theorem oY{k l:IntKind}{a c:Int}:vy .sub (.int k a) (.int l c)= .int k (k.wrap (a-c)):=rfl
theorem ot{k l:IntKind}{a c:Int}:vC .sub (.int k a) (.int l c)=(k=l):=rfl
theorem oQ{k l:IntKind}{a c:Int}:vy .mul (.int k a) (.int l c)= .int k (k.wrap (a*c)):=rfl
theorem oe{k l:IntKind}{a c:Int}:vC .mul (.int k a) (.int l c)=(k=l):=rfl
theorem oS{k l:IntKind}{a c:Int}:vy .quo (.int k a) (.int l c)= .int k (k.wrap (a.tdiv c)):=rfl
theorem oh{k l:IntKind}{a c:Int}:vC .quo (.int k a) (.int l c)=(k=l∧c≠0):=rfl
theorem oU{k l:IntKind}{a c:Int}:vy .rem (.int k a) (.int l c)= .int k (a.tmod c):=rfl
theorem om{k l:IntKind}{a c:Int}:vC .rem (.int k a) (.int l c)=(k=l∧c≠0):=rfl
theorem oV{k l:IntKind}{a c:Int}:vy .shl (.int k a) (.int l c)= .int k (Re k a c):=rfl
theorem oo{k l:IntKind}{a c:Int}:vC .shl (.int k a) (.int l c)=(0<=c):=rfl
theorem oW{k l:IntKind}{a c:Int}:vy .shr (.int k a) (.int l c)= .int k (BM k a c):=rfl
theorem oq{k l:IntKind}{a c:Int}:vC .shr (.int k a) (.int l c)=(0<=c):=rfl
theorem oL{k l:IntKind}{a c:Int}:vy .eql (.int k a) (.int l c)= .bool (decide (a=c)):=rfl
theorem n6{k l:IntKind}{a c:Int}:vC .eql (.int k a) (.int l c)=(k=l):=rfl
theorem oR{k l:IntKind}{a c:Int}:vy .neq (.int k a) (.int l c)= .bool (!decide (a=c)):=rfl
theorem og{k l:IntKind}{a c:Int}:vC .neq (.int k a) (.int l c)=(k=l):=rfl
theorem oP{k l:IntKind}{a c:Int}:vy .lss (.int k a) (.int l c)= .bool (decide (a<c)):=rfl
theorem od{k l:IntKind}{a c:Int}:vC .lss (.int k a) (.int l c)=(k=l):=rfl
theorem oO{k l:IntKind}{a c:Int}:vy .leq (.int k a) (.int l c)= .bool (decide (a<=c)):=rfl
theorem n9{k l:IntKind}{a c:Int}:vC .leq (.int k a) (.int l c)=(k=l):=rfl
theorem oN{k l:IntKind}{a c:Int}:vy .gtr (.int k a) (.int l c)= .bool (decide (c<a)):=rfl
theorem n8{k l:IntKind}{a c:Int}:vC .gtr (.int k a) (.int l c)=(k=l):=rfl
theorem oM{k l:IntKind}{a c:Int}:vy .geq (.int k a) (.int l c)= .bool (decide (c<=a)):=rfl
theorem n7{k l:IntKind}{a c:Int}:vC .geq (.int k a) (.int l c)=(k=l):=rfl
theorem oK{k l:IntKind}{a c:Int}:vy .and (.int k a) (.int l c)= .int k (QE k a c):=rfl
theorem n5{k l:IntKind}{a c:Int}:vC .and (.int k a) (.int l c)=(k=l):=rfl
theorem Q0{k l:IntKind}{a c:Int}:vy .or (.int k a) (.int l c)= .int k (orK k a c):=rfl
theorem QZ{k l:IntKind}{a c:Int}:vC .or (.int k a) (.int l c)=(k=l):=rfl
theorem oZ{k l:IntKind}{a c:Int}:vy .xor (.int k a) (.int l c)= .int k (RP k a c):=rfl
theorem ou{k l:IntKind}{a c:Int}:vC .xor (.int k a) (.int l c)=(k=l):=rfl
theorem cC{k l:IntKind}{a c:Int}:vy .andNot (.int k a) (.int l c)= .int k (WM k a c):=rfl
theorem cB{k l:IntKind}{a c:Int}:vC .andNot (.int k a) (.int l c)=(k=l):=rfl
theorem pa{s u:List UInt8}:vy .add (.str s) (.str u)= .str (s++u):=rfl
theorem ov{s u:List UInt8}:vC .add (.str s) (.str u)=(s.length+u.length<=9223372036854775807):=rfl
theorem pd{s u:List UInt8}:vy .eql (.str s) (.str u)= .bool (decide (s=u)):=rfl
theorem oz{s u:List UInt8}:vC .eql (.str s) (.str u)=True:=rfl
theorem pm{s u:List UInt8}:vy .neq (.str s) (.str u)= .bool (!decide (s=u)):=rfl
theorem oI{s u:List UInt8}:vC .neq (.str s) (.str u)=True:=rfl
theorem pj{s u:List UInt8}:vy .lss (.str s) (.str u)= .bool (Op.bytesLess s u):=rfl
theorem oH{s u:List UInt8}:vC .lss (.str s) (.str u)=True:=rfl
theorem pi{s u:List UInt8}:vy .leq (.str s) (.str u)= .bool (Op.bytesLess s u||decide (s=u)):=rfl
theorem oG{s u:List UInt8}:vC .leq (.str s) (.str u)=True:=rfl
theorem pf{s u:List UInt8}:vy .gtr (.str s) (.str u)= .bool (!(Op.bytesLess s u||decide (s=u))):=rfl
theorem oD{s u:List UInt8}:vC .gtr (.str s) (.str u)=True:=rfl
theorem pe{s u:List UInt8}:vy .geq (.str s) (.str u)= .bool (!Op.bytesLess s u):=rfl
theorem oC{s u:List UInt8}:vC .geq (.str s) (.str u)=True:=rfl
theorem Qj{n p q:Bool}:valP (.bool n) [.bool p,.bool q]= .bool (n !=(p==q)):=rfl
theorem JA{n p q:Bool}:okP (.bool n) [.bool p,.bool q]=True:=rfl
theorem Vq{p:Bool}:valP (.un .not) [.bool p]= .bool (!p):=rfl
theorem YE{p:Bool}:okP (.un .not) [.bool p]=True:=rfl
theorem Vp{k:IntKind}{n:Int}:valP (.un .neg) [.int k n]= .int k (k.wrap (0-n)):=rfl
theorem YD{k:IntKind}{n:Int}:okP (.un .neg) [.int k n]=True:=rfl
theorem Qk{k l:IntKind}{n:Int}:valP (.conv k) [.int l n]= .int k (k.wrap n):=rfl
theorem JB{k l:IntKind}{n:Int}:okP (.conv k) [.int l n]=True:=rfl
theorem y9{n:Bool}{x:AV}:valP (.isnil .ptr n) [x]= .bool (n !=(zf .ptr x).getD false):=rfl
theorem bA{n:Bool}{x:AV}:okP (.isnil .ptr n) [x]=((zf .ptr x).isSome=true):=rfl
theorem yR{n:Bool}{x:AV}:valP (.isnil .func n) [x]= .bool (n !=(zf .func x).getD false):=rfl
theorem y5{n:Bool}{x:AV}:okP (.isnil .func n) [x]=((zf .func x).isSome=true):=rfl
theorem ya{n:Bool}{x:AV}:valP (.isnil .iface n) [x]= .bool (n !=(zf .iface x).getD false):=rfl
theorem yJ{n:Bool}{x:AV}:okP (.isnil .iface n) [x]=((zf .iface x).isSome=true):=rfl
theorem xa{n:Bool}{m:Nat}{f:Nat->Qt}:valP (.isnil .slice n) [.sl m f]=if m=0 then .anyb else .bool (n !=false):=rfl
theorem dF{n:Bool}{m:Nat}{f:Nat->Qt}:okP (.isnil .slice n) [.sl m f]=True:=rfl
theorem b0{n:Bool}:valP (.isnil .slice n) [.nl]= .bool (n !=true):=rfl
theorem dE{n:Bool}:okP (.isnil .slice n) [.nl]=True:=by simp[okP,zf]
theorem lG(A B:Nx)(t:Qt)(h:up):fk .anyb A B t h=(A t h∧B t h):=rfl
theorem mW:AV.strip .anyb= .anyb:=rfl
theorem rA:AV.flag .anyb=true:=rfl
theorem mI:AV.solid .anyb=true:=rfl
theorem lv:AV.cells .anyb= [.anyb]:=rfl
theorem sH:zf .ptr .nilp=some true:=rfl
theorem mj:zf .func .nilfn=some true:=rfl
theorem ml:zf .iface .nilif=some true:=rfl
theorem Yw:zf .slice .nl=some true:=rfl
theorem Yv{c:Qt}:zf .ptr (.ip c)=some false:=rfl
theorem Yu{f:Fn}{a c:Qt}:zf .func (.fn f a c)=some false:=rfl
theorem Jm:zf .iface .ifc=some false:=rfl
theorem Vm{ks:List AK}{n:Bool}{x y:Qt}:valP (.aeq ks n) [.agg x,.agg y]= .bool (n !=(jS ks x y).getD false):=rfl
theorem YA{ks:List AK}{n:Bool}{x y:Qt}:okP (.aeq ks n) [.agg x,.agg y]=((jS ks x y).isSome=true):=rfl
theorem Vo{p:Nat}{n:Option Nat}{c:Qt}:valP (.fld p n) [.agg c]=cut c p n:=rfl
theorem YC{p:Nat}{n:Option Nat}{c:Qt}:okP (.fld p n) [.agg c]=kc c p n:=rfl
theorem Xu{p:Nat}{c:Qt}:kc c p none=(p<c.length):=rfl
theorem Xv{p n:Nat}{c:Qt}:kc c p (some n)=(p+n<=c.length):=rfl
theorem Vn{i:Nat}{c:Qt}:valP (.ext i) [.tup c]=(c[i]?).getD .undef:=rfl
theorem YB{i:Nat}{c:Qt}:okP (.ext i) [.tup c]=(i<c.length):=rfl
theorem nG{z:Qt}{ps:List (Nat×Nat)}{vs:Qt}:valP (.build z ps) vs= .agg (vF z ps vs):=by cases vs<;>rfl
theorem sR{z:Qt}{ps:List (Nat×Nat)}{vs:Qt}:okP (.build z ps) vs=vq z.length ps vs:=by cases vs<;>rfl
theorem lR{n:Nat}:vq n [] []=True:=rfl
theorem fp{m p n:Nat}{ps:List (Nat×Nat)}{v:AV}{vs:Qt}:vq m ((p,n)::ps) (v::vs)=(v.solid=true∧v.cells.length=n∧p+n<=m∧vq m ps vs):=rfl
theorem rx{z:Qt}{ps:List (Nat×Nat)}:vF z ps []=z:=by cases ps<;>rfl
theorem lQ{z:Qt}{p n:Nat}{ps:List (Nat×Nat)}{v:AV}{vs:Qt}:vF z ((p,n)::ps) (v::vs)=vF (z.take p++v.cells++z.drop (p+n)) ps vs:=rfl
theorem Qq{f:Fn}{n:Nat}{vs:Qt}:valP (.mkfn f n) vs= .fn f (vs.take n) (vs.drop n):=by cases vs<;>rfl
theorem JE{f:Fn}{n:Nat}{vs:Qt}:okP (.mkfn f n) vs=(n<=vs.length):=by cases vs<;>rfl
theorem Qr{s:List UInt8}{k:IntKind}{i:Int}:valP .sidx [.str s,.int k i]= .int .u8 ((s[i.toNat]?).getD 0).toNat:=rfl
theorem Qi{cs:Qt}{k:IntKind}{i:Int}{n1 n2:Nat}{n3:Option Nat}:valP (.aidx n1 n2 n3) [.agg cs,.int k i]=cut cs (i.toNat*n2) n3:=rfl
theorem Jz{cs:Qt}{k:IntKind}{i:Int}{n1 n2:Nat}{n3:Option Nat}:okP (.aidx n1 n2 n3) [.agg cs,.int k i]=((0<=i∧i<n1)∧kc cs (i.toNat*n2) n3):=rfl
theorem JF{s:List UInt8}{k:IntKind}{i:Int}:okP .sidx [.str s,.int k i]=(0<=i∧i<s.length):=rfl
theorem nI{s:List UInt8}{k m:IntKind}{a c:Int}:valP (.sslc true true) [.str s,.int k a,.int m c]= .str ((s.drop (a:Int).toNat).take ((c:Int).toNat-(a:Int).toNat)):=by simp[valP,loB,hiB]
theorem sT{s:List UInt8}{k m:IntKind}{a c:Int}:okP (.sslc true true) [.str s,.int k a,.int m c]=(0<=(a:Int)∧(a:Int)<=c∧c<=(s.length:Int)):=by simp[okP,loB,hiB,yF]
theorem Qv{s:List UInt8}{k:IntKind}{a:Int}:valP (.sslc true false) [.str s,.int k a]= .str ((s.drop (a:Int).toNat).take (((s.length:Int):Int).toNat-(a:Int).toNat)):=by simp[valP,loB,hiB]
theorem JI{s:List UInt8}{k:IntKind}{a:Int}:okP (.sslc true false) [.str s,.int k a]=(0<=(a:Int)∧(a:Int)<=(s.length:Int)∧(s.length:Int)<=(s.length:Int)):=by simp[okP,loB,hiB,yF]
theorem Qg{g:up}{z w v y p n:Nat}{k:IntKind}{a:Int}:valL g (.slc z true false) [.osl w v y p n,.int k a]= .osl w v y (p+(a:Int).toNat*y) (((n:Int):Int).toNat-(a:Int).toNat):=by simp[valL,loB,hiB]
theorem Jx{g:up}{z w v y p n:Nat}{k:IntKind}{a:Int}:okL g (.slc z true false) [.osl w v y p n,.int k a]=((0<=(a:Int)∧(a:Int)<=(n:Int)∧(n:Int)<=(n:Int))∧y=z∧qz g w v=true∧((a:Int)=0∨(a:Int)<n)):=by simp[okL,loB,hiB,yF,and_assoc]
theorem Qu{s:List UInt8}{k:IntKind}{c:Int}:valP (.sslc false true) [.str s,.int k c]= .str ((s.drop (0:Int).toNat).take ((c:Int).toNat-(0:Int).toNat)):=by simp[valP,loB,hiB]
theorem JH{s:List UInt8}{k:IntKind}{c:Int}:okP (.sslc false true) [.str s,.int k c]=(0<=(0:Int)∧(0:Int)<=c∧c<=(s.length:Int)):=by simp[okP,loB,hiB,yF]
theorem Qh{g:up}{z n:Nat}{f:Nat->Qt}{k:IntKind}{c:Int}:valL g (.slc z false true) [.sl n f,.int k c]= .sl ((c:Int).toNat-(0:Int).toNat) (λi=>f ((0:Int).toNat+i)):=by simp[valL,loB,hiB]
theorem Jy{g:up}{z n:Nat}{f:Nat->Qt}{k:IntKind}{c:Int}:okL g (.slc z false true) [.sl n f,.int k c]=((0<=(0:Int)∧(0:Int)<=c∧c<=(n:Int))∧(0<n->(f 0).length=z)):=by simp[okL,loB,hiB,yF,and_assoc]
theorem Qf{g:up}{z w v y p n:Nat}{k:IntKind}{c:Int}:valL g (.slc z false true) [.osl w v y p n,.int k c]= .osl w v y (p+(0:Int).toNat*y) ((c:Int).toNat-(0:Int).toNat):=by simp[valL,loB,hiB]
theorem Jw{g:up}{z w v y p n:Nat}{k:IntKind}{c:Int}:okL g (.slc z false true) [.osl w v y p n,.int k c]=((0<=(0:Int)∧(0:Int)<=c∧c<=(n:Int))∧y=z∧qz g w v=true∧((0:Int)=0∨(0:Int)<n)):=by simp[okL,loB,hiB,yF,and_assoc]
theorem Qm{k l:IntKind}{a c:Int}:valP (.mm true) [.int k a,.int l c]= .int k (max a c):=rfl
theorem Qo{k l:IntKind}{a c:Int}:valP (.mm false) [.int k a,.int l c]= .int k (min a c):=rfl
theorem Qn{k l m:IntKind}{a c e:Int}:valP (.mm true) [.int k a,.int l c,.int m e]= .int k (max (max a c) e):=rfl
theorem Qp{k l m:IntKind}{a c e:Int}:valP (.mm false) [.int k a,.int l c,.int m e]= .int k (min (min a c) e):=rfl
theorem nE{g:up}{n:Nat}{f:Nat->Qt}:valL g .len [.sl n f]= .int .i64 n:=rfl
theorem sQ{g:up}{n:Nat}{f:Nat->Qt}:okL g .len [.sl n f]=True:=rfl
theorem nD{g:up}:valL g .len [.nl]= .int .i64 0:=rfl
theorem sP{g:up}:okL g .len [.nl]=True:=rfl
theorem Qs{s:List UInt8}:valP .slen [.str s]= .int .i64 s.length:=rfl
theorem JG{s:List UInt8}:okP .slen [.str s]=True:=rfl
theorem gu{g:up}{k v z p n:Nat}:valL g .len [.osl k v z p n]= .int .i64 n:=rfl
theorem mu{g:up}{k v z p n:Nat}:okL g .len [.osl k v z p n]=(qz g k v=true):=rfl
theorem nB{g:up}{z n:Nat}{f:Nat->Qt}{k:IntKind}{i:Int}:valL g (.idxA z) [.sl n f,.int k i]= .ip (f i.toNat):=rfl
theorem sN{g:up}{z n:Nat}{f:Nat->Qt}{k:IntKind}{i:Int}:okL g (.idxA z) [.sl n f,.int k i]=((0<=i∧i<n)∧(f i.toNat).length=z):=rfl
theorem gn{g:up}{z q v y p n:Nat}{k:IntKind}{i:Int}:valL g (.idxA z) [.osl q v y p n,.int k i]= .op q v (p+i.toNat*y):=rfl
theorem mr{g:up}{z q v y p n:Nat}{k:IntKind}{i:Int}:okL g (.idxA z) [.osl q v y p n,.int k i]=((0<=i∧i<n)∧y=z∧(cellsOf g q v).isSome=true):=rfl
theorem nu{g:up}{m z:Nat}{c:Qt}{k:IntKind}{i:Int}:valL g (.idxArr m z) [.ip c,.int k i]= .ip ((c.drop (i.toNat*z)).take z):=rfl
theorem sI{g:up}{m z:Nat}{c:Qt}{k:IntKind}{i:Int}:okL g (.idxArr m z) [.ip c,.int k i]=((0<=i∧i<m)∧c.length=m*z):=rfl
theorem ny{g:up}{m z q v p:Nat}{k:IntKind}{i:Int}:valL g (.idxArr m z) [.op q v p,.int k i]= .op q v (p+i.toNat*z):=rfl
theorem sJ{g:up}{m z q v p:Nat}{k:IntKind}{i:Int}:okL g (.idxArr m z) [.op q v p,.int k i]=((0<=i∧i<m)∧(cellsOf g q v).isSome=true):=rfl
theorem nz{g:up}{p:Nat}{c:Qt}:valL g (.fldA p) [.ip c]= .ip (c.drop p):=rfl
theorem sL{g:up}{p:Nat}{c:Qt}:okL g (.fldA p) [.ip c]=(p<c.length):=rfl
theorem nA{g:up}{p q v o:Nat}:valL g (.fldA p) [.op q v o]= .op q v (o+p):=rfl
theorem sM{g:up}{p q v o:Nat}:okL g (.fldA p) [.op q v o]=((cellsOf g q v).isSome=true):=rfl
theorem Qa{g:up}{n:Option Nat}{c:Qt}:valL g (.load n) [.ip c]=cut c 0 n:=rfl
theorem Jr{g:up}{n:Option Nat}{c:Qt}:okL g (.load n) [.ip c]=kc c 0 n:=rfl
theorem Qb{g:up}{n:Option Nat}{q v p:Nat}:valL g (.load n) [.op q v p]=cut ((cellsOf g q v).getD []) p n:=rfl
theorem Js{g:up}{n:Option Nat}{q v p:Nat}:okL g (.load n) [.op q v p]=((cellsOf g q v).isSome=true∧kc ((cellsOf g q v).getD []) p n):=rfl
theorem Qd{g:up}{c:Qt}:valL g .nilchk [.ip c]= .ip c:=rfl
theorem Ju{g:up}{c:Qt}:okL g .nilchk [.ip c]=True:=rfl
theorem Qe{g:up}{q v p:Nat}:valL g .nilchk [.op q v p]= .op q v p:=rfl
theorem Jv{g:up}{q v p:Nat}:okL g .nilchk [.op q v p]=((cellsOf g q v).isSome=true):=rfl
theorem Qc{g:up}{f:Fn}{a c:Qt}:valL g .nilchk [.fn f a c]= .fn f a c:=rfl
theorem Jt{g:up}{f:Nat}{a c:Qt}:okL g .nilchk [.fn (.func f) a c]=True:=rfl
theorem Zu{c:Qt}{p:Nat}:cut c p none=(c[p]?).getD .undef:=rfl
theorem Zv{c:Qt}{p n:Nat}:cut c p (some n)= .agg ((c.drop p).take n):=rfl
theorem Z6{b w:Bool}:qO (.bool b) w=(b==w):=rfl
theorem rX{g b w:Bool}:qO (.gd g (.bool b)) w=(g&&(b==w)):=rfl
theorem rY{b:Bool}:zy (.bool b)=true:=rfl
theorem md{g b:Bool}:zy (.gd g (.bool b))=true:=rfl
theorem JM{c:Bool}{x y:AV}:vK (.bool c) x y=((c=true->x.flag=true)∧(c=false->y.flag=true)):=rfl
theorem tf{g c:Bool}{x y:AV}:vK (.gd g (.bool c)) x y=(g=true∧(c=true->x.flag=true)∧(c=false->y.flag=true)):=rfl
theorem tg{c p q:Bool}:jX (.bool c) (.bool p) (.bool q)= .bool ((c&&p)||(!c&&q)):=rfl
theorem tz{c p q gc:Bool}:jX (.gd gc (.bool c)) (.bool p) (.bool q)= .bool ((c&&p)||(!c&&q)):=rfl
theorem th{c p q gq:Bool}:jX (.bool c) (.bool p) (.gd gq (.bool q))= .bool ((c&&p)||(!c&&q)):=rfl
theorem tA{c p q gq gc:Bool}:jX (.gd gc (.bool c)) (.bool p) (.gd gq (.bool q))= .bool ((c&&p)||(!c&&q)):=rfl
theorem tj{c p q gp:Bool}:jX (.bool c) (.gd gp (.bool p)) (.bool q)= .bool ((c&&p)||(!c&&q)):=rfl
theorem tB{c p q gp gc:Bool}:jX (.gd gc (.bool c)) (.gd gp (.bool p)) (.bool q)= .bool ((c&&p)||(!c&&q)):=rfl
theorem tq{c p q gp gq:Bool}:jX (.bool c) (.gd gp (.bool p)) (.gd gq (.bool q))= .bool ((c&&p)||(!c&&q)):=rfl
theorem tC{c p q gp gq gc:Bool}:jX (.gd gc (.bool c)) (.gd gp (.bool p)) (.gd gq (.bool q))= .bool ((c&&p)||(!c&&q)):=rfl
theorem D7{P:Program}{b:Nat}{Q:Ex->Nx}{t:Qt}{h:up}:qU P b .skip Q t h=Q .normal t h:=(rfl)
theorem Lm{P:Program}{b:Nat}{Q:Ex->Nx}{t:Qt}{h:up}{l:List RO}:qU P b (.ops l) Q t h=opsA P b l (Q .normal) t h:=(rfl)
theorem Lo{P:Program}{b:Nat}{Q:Ex->Nx}{t:Qt}{h:up}{x y:C}:qU P b (.seq x y) Q t h=qU P b x (Ex.andThen (qU P b y Q) Q) t h:=(rfl)
theorem D5{P:Program}{b:Nat}{Q:Ex->Nx}{t:Qt}{h:up}{c:X}{x y:C}:qU P b (.cond c x y) Q t h=fk (ev t c) (qU P b x Q) (qU P b y Q) t h:=(rfl)
theorem Xa{P:Program}{b:Nat}{Q:Ex->Nx}{t:Qt}{h:up}{i:Nat}{x:C}:qU P b (.block i x) Q t h=qU P b x (Ex.inBlock i Q) t h:=(rfl)
theorem D6{P:Program}{b:Nat}{Q:Ex->Nx}{t:Qt}{h:up}{i:Nat}:qU P b (.exit i) Q t h=Q (.exit i) t h:=(rfl)
theorem Ln{P:Program}{b:Nat}{Q:Ex->Nx}{t:Qt}{h:up}:qU P b .ret Q t h=Q .ret t h:=(rfl)
theorem OK{K:Nx}{Q:Ex->Nx}{t:Qt}{h:up}:Ex.andThen K Q .normal t h=K t h:=(rfl)
theorem OJ{K:Nx}{Q:Ex->Nx}{t:Qt}{h:up}{i:Nat}:Ex.andThen K Q (.exit i) t h=Q (.exit i) t h:=(rfl)
theorem OL{K:Nx}{Q:Ex->Nx}{t:Qt}{h:up}:Ex.andThen K Q .ret t h=Q .ret t h:=(rfl)
theorem Po{i:Nat}{Q:Ex->Nx}{t:Qt}{h:up}:Ex.inBlock i Q .normal t h=Q .normal t h:=(rfl)
theorem Pq{i:Nat}{Q:Ex->Nx}{t:Qt}{h:up}:Ex.inBlock i Q .ret t h=Q .ret t h:=(rfl)
theorem Pn{i j:Nat}{Q:Ex->Nx}{t:Qt}{h:up}:Ex.inBlock i Q (.exit j) t h=if j=i then Q .normal t h else Q (.exit j) t h:=(rfl)
end AF
end
section
namespace AF
open Go
attribute [go_sem] Im Qi Jz Gy HJ Gz HK GE HL GF HM GG HN GH HO GI HQ GK HS X9 Ah Z4 Kx OZ OY mX rB mJ lz uK ZI ur pP uO ZM uw pT KZ XR KI Zn uM ZK uu pR uI ZG uo uP ZN pU KW XO KF Zk KY XQ KH Zm nf rF mM lE KX XP KG Zl KU XM KE Zi uQ ZO ux pV fX lV fN fg uJ ZH uq pO fY lW fO fh f5 lZ pN KV XN RA NS NJ II RB NT Ir AT NM AQ Vw Iw IA Bt Iz Bq IB Bv Rz NN IJ It Bm Is Bl Iu Bn Vt QB NR Iy Bo Ix AP NL AW AU Ip NH Io Iq Bj AS NP XJ ZA np f6 rJ ma oJ nZ oY ot oQ oe oS oh oU om oV oo oW oq oL n6 oR og oP od oO n9 oN n8 oM n7 oK n5 Q0 QZ oZ ou cC cB pa ov pd oz pm oI pj oH pi oG pf oD pe oC Qj JA Vq YE Vp YD Qk JB y9 bA yR y5 ya yJ xa dF b0 dE lG mW rA mI lv sH mj ml Yw Yv Yu Jm Vm YA Vo YC Xu Xv Vn YB nG sR lR fp rx lQ Qq JE Qr JF nI sT Qv JI Qg Jx Qu JH Qh Jy Qf Jw Qm Qo Qn Qp nE sQ nD sP Qs JG gu mu nB sN gn mr nu sI ny sJ nz sL nA sM Qa Jr Qb Js Qd Ju Qe Jv Qc Jt Zu Zv Z6 rX rY md JM tf tg tz th tA tj tB tq tC D7 Lm Lo D5 Xa D6 Ln OK OJ OL Po Pq Pn
attribute [go_sem] and_true true_and List.drop_zero List.drop_succ_cons List.getElem?_cons_zero List.getElem?_cons_succ Option.getD_some List.length_cons List.length_nil Int.toNat_natCast beq_true imp_self and_self implies_true Bool.and_true Bool.and_false Bool.or_false decide_eq_true_eq Bool.and_eq_true
theorem ua(t:Qt)(h:up):kS t h []=True:=rfl
theorem mF(t:Qt)(h:up):jd t h []= []:=rfl
theorem mG(n:Nat)(l:List RV)(t:Qt)(h:up):jd t h (.tmp n::l)=zE n t::jd t h l:=rfl
theorem Kr(v:AV):fF [v]=v:=rfl
theorem Ks(v u:AV)(l:Qt):fF (v::u::l)= .tup (v::u::l):=rfl
theorem lH(c:Bool)(A B:Nx)(t:Qt)(h:up):fk (.bool c) A B t h=((c=true->A t h)∧(c=false->B t h)):=rfl
theorem qn{n:Int}(h0: -9223372036854775808<=n)(h1:n<=9223372036854775807):IntKind.i64.wrap n=n:=by
 have e1:(2:Int)^IntKind.bits IntKind.i64=18446744073709551616:=rfl;have e2:(2:Int)^(IntKind.bits IntKind.i64-1)=9223372036854775808:=rfl;have e3:IntKind.signed IntKind.i64=true:=rfl;unfold IntKind.wrap;rw[e1,e2,e3];simp only[Bool.true_and,decide_eq_true_eq];split<;>omega
theorem aZ{rs:List RV}{h0:up}{K:AV->up->Prop}{t:Qt}{hh tl:up}{r:AV}(e:hh=h0++tl)(hok:kS t hh rs)(hK:K r h0)(hv:VLe (frz (λk=>decide (h0.length<=k)) hh 8 (fF (jd t hh rs))) r):
  fnQ rs h0 K .ret t hh:=by subst e;exact ZX hok hK hv
theorem qr{P:Program}{b:Nat}{x:C}{Q:Ex->Nx}{ι:Type}{t:Qt}{h:up}(T:ι->Qt)(H:ι->up)(inv:ι->Prop)(m:ι->Nat)(i0:ι)(h0:inv i0)(hw:Wk t h (T i0) (H i0))
  (round: ∀i,inv i-> ∀K:Nx,(∀t' h' j,inv j->m j<m i->Wk t' h' (T j) (H j)->K t' h')->qU P b x (Ex.andThen K Q) (T i) (H i)):qU P b (.loop x) Q t h:=by
 refine⟨λn t h=> ∃i,inv i∧m i=n∧t=T i∧h=H i,⟨m i0,T i0,H i0,hw,i0,h0,rfl,rfl,rfl⟩,?_⟩;rintro n t' h' ⟨i,hi,rfl,rfl,rfl⟩;exact round i hi _ (λt'' h'' j hj hlt hw=>⟨m j,T j,H j,hlt,hw,j,hj,rfl,rfl,rfl⟩)
def qX(n:Nat)(l:List (Nat×AV)):Qt:=l.foldl (λt p=>ji p.1 t p.2) (List.replicate n .undef)
theorem xc.nil:xc [] []:=trivial
theorem qa(a:AV):VLe a .undef=True:=by simp[VLe.undef]
theorem qf(a:AV):VLe a a=True:=by simp[VLe.refl]
theorem qh{k:IntKind}{a b:Int}(h:a=b):VLe (.int k a) (.int k b):=h▸VLe.refl _
theorem qg:xc [] []=True:=rfl
theorem qc{a b:AV}{l m:Qt}:xc (a::l) (b::m)=(VLe a b∧xc l m):=rfl
theorem qe{rs:List RV}{h:up}{t:Qt}{r:AV}(hok:kS t h rs)(hv:VLe (frz (λk=>decide (h.length<=k)) h 8 (fF (jd t h rs))) r):fnQ rs h (λr1 h1=>r1=r∧h1=h) .ret t h:=
 aZ (tl:= []) (by simp) hok ⟨rfl,rfl⟩ hv
theorem qb{rs:List RV}{h tl:up}{t:Qt}{r:AV}(hok:kS t (h++tl) rs)(hv:VLe (frz (λk=>decide (h.length<=k)) (h++tl) 8 (fF (jd t (h++tl) rs))) r):fnQ rs h (λr1 h1=>r1=r∧h1=h) .ret t (h++tl):=
 aZ rfl hok ⟨rfl,rfl⟩ hv
section
variable {fz : Nat -> Bool} {h : up} {n : Nat}
theorem frz_int{k:IntKind}{a:Int}:frz fz h (n+1) (.int k a)= .int k a:=rfl
theorem frz_bool{a:Bool}:frz fz h (n+1) (.bool a)= .bool a:=rfl
theorem frz_str{a:List UInt8}:frz fz h (n+1) (.str a)= .str a:=rfl
theorem frz_sl{m:Nat}{f:Nat->Qt}:frz fz h (n+1) (.sl m f)= .sl m f:=rfl
theorem frz_nl:frz fz h (n+1) .nl= .nl:=rfl
theorem frz_nilp:frz fz h (n+1) .nilp= .nilp:=rfl
theorem frz_nilfn:frz fz h (n+1) .nilfn= .nilfn:=rfl
theorem frz_ifc:frz fz h (n+1) .ifc= .ifc:=rfl
theorem frz_nilif:frz fz h (n+1) .nilif= .nilif:=rfl
theorem frz_undef:frz fz h (n+1) .undef= .undef:=rfl
theorem frz_ip{cs:Qt}:frz fz h (n+1) (.ip cs)= .ip cs:=rfl
theorem frz_agg{cs:Qt}:frz fz h (n+1) (.agg cs)= .agg (cs.map (frz fz h n)):=rfl
theorem frz_tup{cs:Qt}:frz fz h (n+1) (.tup cs)= .tup (cs.map (frz fz h n)):=rfl
theorem frz_fn{f:Fn}{a b:Qt}:frz fz h (n+1) (.fn f a b)= .fn f (a.map (frz fz h n)) (b.map (frz fz h n)):=rfl
theorem frz_gd{g:Bool}{v:AV}:frz fz h (n+1) (.gd g v)= .gd g (frz fz h n v):=rfl
end
attribute [go_sem] frz_int frz_bool frz_str frz_sl frz_nl frz_nilp frz_nilfn frz_ifc frz_nilif frz_undef frz_ip frz_agg frz_tup frz_fn frz_gd if_true if_false List.map_cons List.map_nil
attribute [go_sem] lH ua mF mG Kr Ks
end AF
end
section
namespace AF
open Go
section
variable {h : up} {l : up} {n k v : Nat} {o : AObj} {ty : TypeId} {cs : Qt}
theorem getO_app0:qt h.length (h++l)=l[0]? :=by unfold qt;rw[List.getElem?_append_right (Nat.le_refl _),Nat.sub_self]
theorem getO_app:qt (h.length+n) (h++l)=l[n]? :=by unfold qt;rw[List.getElem?_append_right (by omega),Nat.add_sub_cancel_left]
theorem setO_app0:qo h.length (h++l) o=h++l.set 0 o:=by unfold qo;rw[List.set_append_right _ _ (Nat.le_refl _),Nat.sub_self]
theorem setO_app:qo (h.length+n) (h++l) o=h++l.set n o:=by unfold qo;rw[List.set_append_right _ _ (by omega),Nat.add_sub_cancel_left]
theorem verOf_mem:qq (some (.mem v ty cs))=v:=rfl
theorem verOf_emp:qq (some (.emp v))=v:=rfl
theorem tyOf_mem:QK (some (.mem v ty cs))=ty:=rfl
theorem site_app:qI (h++l) (h.length+n)=qI l n:=by unfold qI;rw[getO_app];rfl
theorem site_app0:qI (h++l) h.length=qI l 0:=by unfold qI;rw[getO_app0];rfl
theorem site_0_mem{v:Nat}:qI (.mem v ty cs::l) 0=true:=rfl
theorem site_0_emp{v:Nat}:qI (.emp v::l) 0=true:=rfl
theorem site_s:qI (o::l) (n+1)=qI l n:=rfl
theorem cellsOf_app:cellsOf (h++l) (h.length+n) v=cellsOf l n v:=by unfold cellsOf;rw[getO_app];rfl
theorem cellsOf_app0:cellsOf (h++l) h.length v=cellsOf l 0 v:=by unfold cellsOf;rw[getO_app0];rfl
theorem cellsOf_0{w:Nat}:cellsOf (.mem w ty cs::l) 0 v=if w=v then some cs else none:=rfl
theorem cellsOf_s:cellsOf (o::l) (n+1) v=cellsOf l n v:=rfl
theorem liveS_app:qz (h++l) (h.length+n) v=qz l n v:=by unfold qz;rw[getO_app];rfl
theorem liveS_0_mem{w:Nat}:qz (.mem w ty cs::l) 0 v=(w==v):=rfl
theorem liveS_0_emp{w:Nat}:qz (.emp w::l) 0 v=(w==v):=rfl
theorem liveS_s:qz (o::l) (n+1) v=qz l n v:=rfl
theorem tyOk_mem{t:TypeId}:nM (some (.mem v t cs)) ty=(t==ty):=rfl
theorem tyOk_emp:nM (some (.emp v)) ty=true:=rfl
theorem b_add0{b:Nat}:b+0=b:=rfl
theorem appO_mem{t:TypeId}{ds:Qt}{c m:Nat}:gE (some (.mem k t ds)) ty v c m cs= .mem (v+1) ty (ds.take c++cs):=rfl
theorem appO_emp{c m:Nat}:gE (some (.emp k)) ty v c m cs=if m=0 then .emp (v+1) else .mem (v+1) ty cs:=rfl
end
section
variable {b : Nat} {h : up} {t : Qt} {d : Option Nat} {nx : Qt -> up -> Prop}
theorem Ei{j sz:Nat}{ty:TypeId}:effE b h (.nilo j sz ty) [] t d nx=(qI h (b+j)=true∧nx (qT t d (.osl (b+j) (qq (qt (b+j) h)+1) sz 0 0)) (qo (b+j) h (.emp (qq (qt (b+j) h)+1)))):=(rfl)
theorem XC{j:Nat}{ty:TypeId}{z:Qt}:effE b h (.alloc j ty z) [] t d nx=(qI h (b+j)=true∧nx (qT t d (.op (b+j) (qq (qt (b+j) h)+1) 0)) (qo (b+j) h (.mem (qq (qt (b+j) h)+1) ty z))):=(rfl)
theorem LK{j:Nat}{ty:TypeId}{v:AV}:effE b h (.box j ty) [v] t d nx=((qI h (b+j)=true∧v.solid=true)∧nx (qT t d (.op (b+j) (qq (qt (b+j) h)+1) 0)) (qo (b+j) h (.mem (qq (qt (b+j) h)+1) ty v.cells))):=(rfl)
theorem XF{n k ver off:Nat}{v:AV}:effE b h (.store n) [.op k ver off,v] t d nx=(((cellsOf h k ver).isSome=true∧v.solid=true∧v.cells.length=n∧off+n<=((cellsOf h k ver).getD []).length)∧
  nx (qT t d (.tup [])) (qo k h (.mem ver (QK (qt k h)) (((cellsOf h k ver).getD []).take off++v.cells++((cellsOf h k ver).getD []).drop (off+n))))):=(rfl)
theorem XE{j sz:Nat}{ty:TypeId}{z:Qt}{bytes:Nat}{l c:Int}:effE b h (.mkslc j sz ty z bytes) [.int .i64 l,.int .i64 c] t d nx=((qI h (b+j)=true∧z.length=sz∧0<=l∧l=c∧c*(bytes:Int)<=140737488355328∧c<=140737488355328)∧
   nx (qT t d (.osl (b+j) (qq (qt (b+j) h)+1) sz 0 l.toNat)) (qo (b+j) h (.mem (qq (qt (b+j) h)+1) ty (zS z l.toNat)))):=(rfl)
theorem Eh{j sz n:Nat}{ty:TypeId}{z:Qt}{ps:List (Nat×Nat)}{vs:Qt}:effE b h (.bslc j sz n ty z ps) vs t d nx=((qI h (b+j)=true∧z.length=sz∧vq (n*sz) ps vs∧n<=140737488355328)∧
   nx (qT t d (.osl (b+j) (qq (qt (b+j) h)+1) sz 0 n)) (qo (b+j) h (.mem (qq (qt (b+j) h)+1) ty (vF (zS z n) ps vs)))):=by
 cases vs<;>rfl
theorem XD{j sz:Nat}{ty:TypeId}{bytes:Nat}{y:AV}:effE b h (.app j sz ty bytes) [.nl,y] t d nx=(((qk h y).isSome=true∧qI h (b+j)=true∧((qk h y).getD (0,[])).2.length=((qk h y).getD (0,[])).1*sz∧
    (((qk h y).getD (0,[])).1:Int)*bytes<=140737488355328∧(((qk h y).getD (0,[])).1:Int)<=140737488355328)∧
   nx (qT t d (.osl (b+j) (qq (qt (b+j) h)+1) sz 0 ((qk h y).getD (0,[])).1))
    (qo (b+j) h (if ((qk h y).getD (0,[])).1=0 then .emp (qq (qt (b+j) h)+1) else .mem (qq (qt (b+j) h)+1) ty ((qk h y).getD (0,[])).2))):=(rfl)
theorem LJ{j sz:Nat}{ty:TypeId}{bytes k ver sz' off m:Nat}{y:AV}:effE b h (.app j sz ty bytes) [.osl k ver sz' off m,y] t d nx=(((qk h y).isSome=true∧qz h k ver=true∧nM (qt k h) ty=true∧m*sz<=((cellsOf h k ver).getD []).length∧xC (.osl k ver sz' off m) y=true∧sz'=sz∧off=0∧
    ((qk h y).getD (0,[])).2.length=((qk h y).getD (0,[])).1*sz∧
    ((m+((qk h y).getD (0,[])).1:Nat):Int)*bytes<=140737488355328∧((m+((qk h y).getD (0,[])).1:Nat):Int)<=140737488355328)∧
   nx (qT t d (.osl k (ver+1) sz 0 (m+((qk h y).getD (0,[])).1)))
    (qo k h (gE (qt k h) ty ver (m*sz) ((qk h y).getD (0,[])).1 ((qk h y).getD (0,[])).2))):=(rfl)
theorem Eg{j:Nat}{ty:TypeId}{s:List UInt8}{k ver sz' off m:Nat}:effE b h (.apps j ty) [.osl k ver sz' off m,.str s] t d nx=((qz h k ver=true∧nM (qt k h) ty=true∧m<=((cellsOf h k ver).getD []).length∧sz'=1∧off=0∧((m+s.length:Nat):Int)<=140737488355328)∧
   nx (qT t d (.osl k (ver+1) 1 0 (m+s.length)))
    (qo k h (gE (qt k h) ty ver m s.length (zz s)))):=(rfl)
theorem tL{n:Nat}{v:AV}:qT t (some n) v=ji n t v:=rfl
theorem tK{v:AV}:qT t none v=t:=rfl
theorem bQ:qk h .nl=some (0,[]):=rfl
theorem bR{n:Nat}{f:Nat->Qt}:qk h (.sl n f)=some (n,(List.range n).flatMap f):=rfl
end
attribute [go_sem] getO_app0 getO_app setO_app0 setO_app verOf_mem verOf_emp tyOf_mem site_app site_app0 site_0_mem site_0_emp site_s cellsOf_app cellsOf_app0 cellsOf_0 cellsOf_s liveS_app liveS_0_mem liveS_0_emp liveS_s tyOk_mem tyOk_emp b_add0 appO_mem appO_emp
attribute [go_sem] Ei XC LK XF XE Eh XD LJ Eg tL tK bQ bR
attribute [go_sem] List.set_cons_zero List.set_cons_succ Option.isSome_some List.take_zero List.take_succ_cons List.take_nil List.drop_nil List.nil_append List.cons_append List.append_nil Nat.reduceAdd Nat.reduceMul Nat.reduceSub Nat.reduceLeDiff Nat.reduceEqDiff Nat.zero_add
end AF
end
section
namespace AF
open Go
theorem qH{P:Program}{f:Nat}{p:Bool}{vs:Qt}{d:Option Nat}{nx:Nx}{t:Qt}{h:up}{r:AV}(hc:ACalls P f (strips vs) h r h)(hf:flags vs)(hn:nx (qT t d r) h):pA P f p vs d nx t h:=
 ⟨hf,r,h,hc,λ_=>rfl,hn⟩
theorem qy{P:Program}{f:Nat}{vs:Qt}{d:Option Nat}{nx:Nx}{t:Qt}{h h':up}{r:AV}(hc:ACalls P f (strips vs) h r h')(hf:flags vs)(hn:nx (qT t d r) h'):pA P f false vs d nx t h:=
 ⟨hf,r,h',hc,by simp,hn⟩
theorem qL{P:Program}{f:Nat}{p g:Bool}{vs:Qt}{d:Option Nat}{nx:Nx}{t:Qt}{h:up}{r:AV}(hc:g=true->flags vs∧ACalls P f (strips vs) h r h)(hn:nx (qT t d (.gd g r)) h):pB P f p g vs d nx t h:=
 ⟨r,h,λe=>⟨(hc e).1,(hc e).2,λ_=>rfl⟩,λ_=>rfl,hn⟩
theorem Np{t:Qt}{h:up}:kS t h []:=trivial
theorem Nq{t:Qt}{h:up}{n:Nat}{l:List RV}(hl:kS t h l):kS t h (.tmp n::l):=⟨trivial,hl⟩
theorem XT:flags []:=trivial
theorem XS{a:AV}{l:Qt}(h:a.flag=true)(t:flags l):flags (a::l):=⟨h,t⟩
theorem qj{P:Program}{f:Nat}{p:Bool}{vs:Qt}{d:Option Nat}{nx:Nx}{t:Qt}{h:up}(r:AV)(hn:nx (qT t d (.gd false r)) h):pB P f p false vs d nx t h:=by
 refine⟨r,h,?_,λ_=>rfl,hn⟩;intro e;cases e
theorem qd{a b:Bool}(h:a=b):VLe (.bool a) (.bool b):=h▸VLe.refl _
theorem kV{a b:List UInt8}(h:a=b):VLe (.str a) (.str b):=h▸VLe.refl _
theorem BP{n m:Nat}{f g:Nat->Qt}(e:n=m)(h: ∀i,i<m->f i=g i):VLe (.sl n f) (.sl m g):=by
 subst e;intro w σ x hx;have h1:=zN rfl hx;cases h1 with
 |nilsl=>exact .imm .nilsl
 |sl sz b off cap vals hn hm hb hlt hsz hc h1 hv=>
  refine .imm (.sl sz b off cap vals hn hm hb hlt (λi hi=> ?_) hc h1 (λi j c hi hj=> ?_))
  ·rw[<-h i hi];exact hsz i hi
  ·rw[<-h i hi]at hj;exact hv i j c hi hj
theorem qZ{f:Nat->Qt}:VLe .nl (.sl 0 f):=by
 intro w σ x hx;have h1:=zN rfl hx;cases h1 with
 |nl=>exact .imm .nilsl
theorem WF{l m:Qt}(h:xc l m):VLe (.tup l) (.tup m):=by
 intro w σ x hx;obtain⟨vs,rfl,hl,hv⟩:=eF hx;refine .tup (by rw[hl,h.length]) (λi c x hc hx=> ?_);obtain⟨a,ha,hle⟩:=h.get i c hc;exact hle w σ x (hv i a x ha hx)
def VJ(v:AV)(h:up)(m:Option Nat):Prop:=
 match v with
 | .op k ver off=>okL h (.load m) [.op k ver off]
 |_=>False
theorem mE{n:Nat}{m:Option Nat}{l:List RV}{t:Qt}{h:up}:kS t h (.cell n m::l)=(VJ (zE n t) h m∧kS t h l):=rfl
theorem fL{n:Nat}{m:Option Nat}{l:List RV}{t:Qt}{h:up}:jd t h (.cell n m::l)=valL h (.load m) [zE n t]::jd t h l:=rfl
theorem pK{k ver off:Nat}{h:up}{m:Option Nat}:VJ (.op k ver off) h m=okL h (.load m) [.op k ver off]:=rfl
attribute [go_sem] mE fL pK
theorem fb:jS [] [] []=some true:=rfl
attribute [go_sem] fb Option.map_some Bool.true_bne Bool.false_bne Bool.bne_false
theorem YG{a b:Bool}:(a|| !a&&b)=(a||b):=by cases a<;>simp
theorem I2{a:Bool}:(a==false)= !a:=by cases a<;>rfl
attribute [go_sem] YG I2 Bool.not_eq_true' Bool.or_eq_true decide_eq_false_iff_not Bool.or_eq_false_iff Bool.not_eq_false' Bool.and_eq_false_imp Bool.true_or Bool.or_true Bool.false_or Bool.true_and Bool.not_true Bool.not_false decide_not Bool.not_not
end AF
end
section
namespace AF
open Go
theorem vh{rs:List RV}{h0 h' tl:up}{K:AV->up->Prop}{t:Qt}{r:AV}(hok:kS t (h'++tl) rs)(hl:h'.length=h0.length)(hlow: ∀o∈h',o∈h0∨lowO h0.length o)(hK:K r h')
  (hv:VLe (frz (λk=>decide (h0.length<=k)) (h'++tl) 8 (fF (jd t (h'++tl) rs))) r):fnQ rs h0 K .ret t (h'++tl):=
 ⟨r,h',hK,hok,⟨tl,rfl⟩,hl,hlow,VOut.of 8 hv⟩
theorem zL{rs:List RV}{h0 h' tl:up}{K:AV->up->Prop}{t:Qt}{r:AV}(hok:kS t (h'++tl) rs)(hl:h'.length=h0.length)(hlow: ∀o∈h',o∈h0∨lowO h0.length o)(hK:K r h')
  (hv:VLe (frz (λk=>decide (h0.length<=k)) (h'++tl) 8 (fF (jd t (h'++tl) rs))) r):fnQ rs h0 K .normal t (h'++tl):=
 ⟨r,h',hK,hok,⟨tl,rfl⟩,hl,hlow,VOut.of 8 hv⟩
section
variable {k v : Nat} {h l : up} {o o' : AObj} {ty : TypeId} {cs : Qt}
theorem zk(hk:k<h.length):qt k (h++l)=qt k h:=by unfold qt;rw[List.getElem?_append_left hk]
theorem zw(hk:k<h.length):qo k (h++l) o=qo k h o++l:=by unfold qo;rw[List.set_append_left _ _ hk]
theorem qK:(qo k h o).length=h.length:=by unfold qo;simp
theorem jk(hk:k<h.length):qt k (qo k h o)=some o:=by unfold qt qo;rw[List.getElem?_set_self hk]
theorem kT:qo k (qo k h o) o'=qo k h o':=by unfold qo;rw[List.set_set]
theorem qM(e:qt k h=some (.mem v ty cs)):cellsOf h k v=some cs:=by unfold cellsOf;rw[e];simp
theorem zD(e:qt k h=some o):k<h.length:=by unfold qt at e;exact (List.getElem?_eq_some_iff.1 e).1
theorem jg{x:AObj}(hx:x∈qo k h o):x∈h∨x=o:=by
 unfold qo at hx;exact List.mem_or_eq_of_mem_set hx
end
section
variable {k v w n : Nat} {h l : up} {o o' : AObj} {ty : TypeId} {cs : Qt}
theorem yg(hk:k<h.length):qt k (qo k h o++l)=some o:=by rw[zk (by rw[qK];exact hk),jk hk]
theorem kY(hk:k<h.length):cellsOf (qo k h (.mem w ty cs)++l) k v=if w=v then some cs else none:=by unfold cellsOf;rw[yg hk]
theorem bM(hk:k<h.length):qo k (qo k h o++l) o'=qo k h o'++l:=by rw[zw (by rw[qK];exact hk),kT]
theorem getO_seta:qt (h.length+n) (qo k h o++l)=l[n]? :=by
 have:= @getO_app (qo k h o) l n
 rwa [qK]at this
theorem getO_seta0:qt h.length (qo k h o++l)=l[0]? :=by
 have:= @getO_app0 (qo k h o) l
 rwa [qK]at this
theorem setO_seta:qo (h.length+n) (qo k h o++l) o'=qo k h o++l.set n o':=by
 have:= @setO_app (qo k h o) l n o'
 rwa [qK]at this
theorem setO_seta0:qo h.length (qo k h o++l) o'=qo k h o++l.set 0 o':=by
 have:= @setO_app0 (qo k h o) l o'
 rwa [qK]at this
theorem cellsOf_seta:cellsOf (qo k h o++l) (h.length+n) v=cellsOf l n v:=by unfold cellsOf;rw[getO_seta];rfl
theorem cellsOf_seta0:cellsOf (qo k h o++l) h.length v=cellsOf l 0 v:=by unfold cellsOf;rw[getO_seta0];rfl
theorem site_seta:qI (qo k h o++l) (h.length+n)=qI l n:=by unfold qI;rw[getO_seta];rfl
theorem site_seta0:qI (qo k h o++l) h.length=qI l 0:=by unfold qI;rw[getO_seta0];rfl
end
attribute [go_sem] getO_seta getO_seta0 setO_seta setO_seta0 cellsOf_seta cellsOf_seta0 site_seta site_seta0
theorem jE{k:Nat}{h:up}{o:AObj}(e:qt k h=some o):qo k h o=h:=by
 unfold qt at e;unfold qo;obtain⟨h1,h2⟩:=List.getElem?_eq_some_iff.1 e;rw[<-h2];exact List.set_getElem_self h1
theorem Kq:fF []= .tup []:=rfl
attribute [go_sem] Kq
end AF
end
section
namespace AF
open Go
def Oj(c:Option Qt)(g:AV->AV)(off:Nat):AV:=
 match c with
 |some cs=> .ip ((cs.drop off).map g)
 |none=> .undef
def iE(o:Option AObj)(ver sz off len:Nat)(g:AV->AV):AV:=
 match o with
 |some (.mem ve _ cs)=>if ve=ver∧off+len*sz<=cs.length then .sl len (λi=>((cs.drop (off+i*sz)).take sz).map g) else .undef
 |some (.emp ve)=>if ve=ver then .nl else .undef
 |_=> .undef
section
variable {fz : Nat -> Bool} {h : up} {n k ver sz off len : Nat}
theorem rei_op:rei fz h (n+1) (.op k ver off)=if fz k=true then Oj (cellsOf h k ver) (rei fz h n) off else .undef:=rfl
theorem rei_osl:rei fz h (n+1) (.osl k ver sz off len)=if fz k=true then iE (qt k h) ver sz off len (rei fz h n) else .undef:=rfl
theorem frz_op:frz fz h (n+1) (.op k ver off)=if fz k=true then rei fz h (n+1) (.op k ver off) else .op k ver off:=rfl
theorem frz_osl:frz fz h (n+1) (.osl k ver sz off len)=if fz k=true then rei fz h (n+1) (.osl k ver sz off len) else .osl k ver sz off len:=rfl
theorem ipOf_some{cs:Qt}{g:AV->AV}:Oj (some cs) g off= .ip ((cs.drop off).map g):=rfl
theorem slOf_mem{cs:Qt}{g:AV->AV}{ve:Nat}{ty:TypeId}:iE (some (.mem ve ty cs)) ver sz off len g=if ve=ver∧off+len*sz<=cs.length then .sl len (λi=>((cs.drop (off+i*sz)).take sz).map g) else .undef:=rfl
theorem slOf_emp{g:AV->AV}{ve:Nat}:iE (some (.emp ve)) ver sz off len g=if ve=ver then .nl else .undef:=rfl
theorem rei_int{k:IntKind}{a:Int}:rei fz h (n+1) (.int k a)= .int k a:=rfl
theorem rei_bool{a:Bool}:rei fz h (n+1) (.bool a)= .bool a:=rfl
theorem rei_str{a:List UInt8}:rei fz h (n+1) (.str a)= .str a:=rfl
theorem rei_sl{m:Nat}{f:Nat->Qt}:rei fz h (n+1) (.sl m f)= .sl m f:=rfl
theorem rei_nl:rei fz h (n+1) .nl= .nl:=rfl
theorem rei_ip{cs:Qt}:rei fz h (n+1) (.ip cs)= .ip cs:=rfl
theorem rei_agg{cs:Qt}:rei fz h (n+1) (.agg cs)= .agg (cs.map (rei fz h n)):=rfl
theorem rei_tup{cs:Qt}:rei fz h (n+1) (.tup cs)= .tup (cs.map (rei fz h n)):=rfl
theorem rei_fn{f:Fn}{a b:Qt}:rei fz h (n+1) (.fn f a b)= .fn f (a.map (rei fz h n)) (b.map (rei fz h n)):=rfl
theorem rei_nilp:rei fz h (n+1) .nilp= .nilp:=rfl
theorem rei_undef:rei fz h (n+1) .undef= .undef:=rfl
end
attribute [go_sem] rei_op rei_osl frz_op frz_osl ipOf_some slOf_mem slOf_emp rei_int rei_bool rei_str rei_sl rei_nl rei_ip rei_agg rei_tup rei_fn rei_nilp rei_undef Nat.le_add_right Nat.le_refl Nat.mul_one Nat.one_mul
theorem Vx{P:Program}{b:Nat}{r:List RO}{K:Nx}{t:Qt}{h:up}{d:Option Nat}{xs:List X}{j:Nat}{u:Bool}:opsA P b (⟨d,some (j,u),.callv,xs⟩::r) K t h=
  (zy (zE j t)=true∧(qO (zE j t) u=true->flags (evs t xs)∧wA P (strips (evs t xs)) d (opsA P b r K) t h)∧(qO (zE j t) u=false->opsA P b r K (qT t d .undef) h)):=by simp only[opsA,stepO,kt,R.kd]
theorem pF{P:Program}{k:Nat}{args:Qt}{d:Option Nat}{nx:Nx}{t:Qt}{h:up}:wA P (.yld k::args) d nx t h=((∃s ts L,qt k h=some (.lp s ts L))∧jZ P k args h λv h'=>nx (qT t d v) h'):=(rfl)
theorem aa:valP (.un .not) [.undef]= .bool true:=rfl
theorem tr{g q:Bool}:jX (.bool false) (.gd g .undef) (.bool q)= .bool q:=rfl
attribute [go_sem] Vx pF aa tr true_implies false_implies Bool.false_eq_true Bool.true_eq_false
end AF
end
section
namespace AF
open Go
theorem sU{P:Program}{b:Nat}{l:List RO}: ∀ {nx nx':Nx} {t:Qt} {h:up},(∀t h,nx t h->nx' t h)->opsA P b l nx t h->opsA P b l nx' t h:=by
 induction l with
 |nil=>intro nx nx' t h hn H;exact hn _ _ H
 |cons o l ih=>intro nx nx' t h hn H;exact kf (λt h H=>ih hn H) H
theorem bE{h0:up}{t:Qt}{Q Q':Ex->Nx}{h:up}(hq: ∀e t h,Q e t h->Q' e t h)(H:bD h0 t Q h):bD h0 t Q' h:=by
 obtain⟨hh,s,ts,L,h1,h2,h3,h4⟩:=H;refine⟨hh,s,ts,L,h1,h2,h3,?_⟩;cases s with
 |ready=>exact hq _ _ _ h4
 |ret=>exact hq _ _ _ h4
 |exit id=>exact hq _ _ _ h4
 |busy=>exact h4
theorem vQ{P:Program}{b:Nat}{x:C}: ∀ {Q Q':Ex->Nx} {t:Qt} {h:up},(∀e t h,Q e t h->Q' e t h)->qU P b x Q t h->qU P b x Q' t h:=by
 induction x with
 |skip=>intro Q Q' t h hq H;exact hq _ _ _ H
 |ops l=>intro Q Q' t h hq H;exact sU (λt h H=>hq _ _ _ H) H
 |seq x y ihx ihy=>
  intro Q Q' t h hq H;refine ihx (λe t h H=> ?_) H;cases e with
  |normal=>exact ihy hq H
  |exit id=>exact hq _ _ _ H
  |ret=>exact hq _ _ _ H
 |cond c x y ihx ihy=>
  intro Q Q' t h hq H;simp only[qU,fk]at*;split at H
  ·exact⟨λe=>ihx hq (H.1 e),λe=>ihy hq (H.2 e)⟩
  ·exact⟨ihx hq H.1,ihy hq H.2⟩
  ·exact H.elim
 |block id x ih=>
  intro Q Q' t h hq H;refine ih (λe t h H=> ?_) H;cases e with
  |normal=>exact hq _ _ _ H
  |ret=>exact hq _ _ _ H
  |exit i=>
   simp only[Ex.inBlock]at*;split
   ·rename_i e;rw[if_pos e]at H;exact hq _ _ _ H
   ·rename_i e;rw[if_neg e]at H;exact hq _ _ _ H
 |loop x ih=>
  intro Q Q' t h hq H;obtain⟨I,h1,h2⟩:=H;refine⟨I,h1,λn t' h' hi=>ih (λe t h H=> ?_) (h2 n t' h' hi)⟩;cases e with
  |normal=>exact H
  |exit id=>exact hq _ _ _ H
  |ret=>exact hq _ _ _ H
 |range u ps x y ihx ihy=>
  intro Q Q' t h hq H L hy
  have:=H L hy
  split at this
  ·exact this.le (xc.refl _) (λv h' hr=>⟨v,VLe.refl _,bE hq hr⟩)
  ·exact this
 |exit id=>intro Q Q' t h hq H;exact hq _ _ _ H
 |ret=>intro Q Q' t h hq H;exact hq _ _ _ H
 |wk=>
  intro Q Q' t h hq H;obtain⟨t',h',h1,h2⟩:=H;exact⟨t',h',h1,hq _ _ _ h2⟩
 |draw d=>
  intro Q Q' t h hq H;obtain⟨M,h1,h2⟩:=H;exact⟨M,h1,λt' h' hm=>hq _ _ _ (h2 t' h' hm)⟩
 |bad=>intro Q Q' t h hq H;exact H
def Ao(o:Option AObj)(ver sz off n:Nat):Option (Nat×Qt):=
 match o with
 |some (.mem v _ cs)=>if v=ver∧off+n*sz<=cs.length then some (n,(cs.drop off).take (n*sz)) else none
 |some (.emp v)=>if v=ver∧n=0 then some (0,[]) else none
 |_=>none
theorem y7{h:up}{k ver sz off n:Nat}:qk h (.osl k ver sz off n)=Ao (qt k h) ver sz off n:=rfl
theorem um{v ver sz off n:Nat}{ty:TypeId}{cs:Qt}:Ao (some (.mem v ty cs)) ver sz off n=if v=ver∧off+n*sz<=cs.length then some (n,(cs.drop off).take (n*sz)) else none:=rfl
theorem ul{v ver sz off n:Nat}:Ao (some (.emp v)) ver sz off n=if v=ver∧n=0 then some (0,[]) else none:=rfl
theorem lh{k v z p n k' v' z' p' n':Nat}:xC (.osl k v z p n) (.osl k' v' z' p' n')=(k !=k'):=rfl
theorem nT{k v z p n m:Nat}{f:Nat->Qt}:xC (.osl k v z p n) (.sl m f)=true:=rfl
theorem nS{k v z p n:Nat}:xC (.osl k v z p n) .nl=true:=rfl
attribute [go_sem] Int.toNat_zero decide_true decide_false beq_self_eq_true
attribute [go_sem] y7 um ul lh nT nS
theorem gm{g:up}{z:Nat}{i:AV}:valL g (.idxA z) [.nl,i]= .undef:=rfl
theorem yQ{g:up}{n:Option Nat}:valL g (.load n) [.undef]= .undef:=rfl
theorem y8{g:up}{n:Nat}:valL g (.fldA n) [.undef]= .undef:=rfl
theorem lj{op:BinOp}{y:AV}:vy op .undef y= .undef:=rfl
theorem tD{p g:Bool}:jX (.bool true) (.bool p) (.gd g .undef)= .bool p:=rfl
theorem tu{p g:Bool}:jX (.bool false) (.gd g .undef) (.bool p)= .bool p:=rfl
attribute [go_sem] gm yQ y8 lj tD tu
theorem Xb{P:Program}{b:Nat}{u:X}{ps:List Nat}{x y:C}{Q:Ex->Nx}{t:Qt}{h:up}:qU P b (.range u ps x y) Q t h=dJ P (ev t u) ps (qU P b x) (qU P b y) Q t h:=(rfl)
attribute [go_sem] Xb
end AF
end
section
namespace AF
open Go
theorem HR.move{w:World}{σ:List OB}{h:up}(H:HR w σ h){k j vj:Nat}{ty:TypeId}{cs:Qt}(hj:qt j h=some (.mem vj ty cs))(hk:qI h k=true)(hne:k≠j):
  ∃σ',HR w σ' (qo k (qo j h (.emp (vj+1))) (.mem (qq (qt k h)+1) ty cs))∧Ext w σ w σ'∧
   ∀sz off len x,VR w σ (.osl j vj sz off len) x->VR w σ' (.osl k (qq (qt k h)+1) sz off len) x:=by
 obtain⟨ok,hok,hver⟩:=jm H hk;have hjl:j<σ.length:=by rw[H.len];exact zD hj
 have hkl:k<σ.length:=(List.getElem?_eq_some_iff.1 hok).1;obtain⟨oj,hoj⟩: ∃oj,σ[j]? =some oj:=⟨_,List.getElem?_eq_getElem hjl⟩
 have hobj:=H.obj j _ oj hj hoj;obtain⟨m1,m2,b,arr,m3,m4,m5,m6,m7,m8⟩:=hobj;rw[hver]
 let oj':OB:= { oj with blk:=none,ver:=oj.ver+1 }
 let ok':OB:= { oj with ver:=ok.ver+1 }
 let σ':=(σ.set j oj').set k ok'
 have gk:σ'[k]? =some ok':=by simp[σ',hkl]
 have gj:σ'[j]? =some oj':=by simp only[σ'];rw[List.getElem?_set_ne hne];simp[hjl]
 have go: ∀i,i≠k->i≠j->σ'[i]? =σ[i]? :=by
  intro i h1 h2;simp only[σ'];rw[List.getElem?_set_ne (λe=>h1 e.symm),List.getElem?_set_ne (λe=>h2 e.symm)]
 have blk: ∀(i:Nat) (o:OB) (b:Nat),σ'[i]? =some o->o.blk=some b->(i=k∧oj.blk=some b)∨(i≠k∧i≠j∧σ[i]? =some o):=by
  intro i o b h1 h2
  by_cases e1:i=k
  ·subst e1;rw[gk]at h1;cases h1;exact .inl ⟨rfl,h2⟩
  ·by_cases e2:i=j
   ·subst e2;rw[gj]at h1;cases h1;cases h2
   ·rw[go i e1 e2]at h1;exact .inr ⟨e1,e2,h1⟩
 have hext:Ext w σ w σ':=by
  refine⟨rfl,rfl,rfl,Nat.le_refl _,λ_ _ _=>rfl,?_,?_,λb r h=>⟨r,h⟩⟩
  ·rintro b ⟨i,o,h1,h2⟩;rcases blk i o b h1 h2 with⟨_,h3⟩|⟨_,_,h3⟩
   ·exact .inl ⟨j,oj,hoj,h3⟩
   ·exact .inl ⟨i,o,h3,h2⟩
  ·intro i o h1
   by_cases e1:i=k
   ·subst e1;rw[hok]at h1;cases h1;exact⟨ok',gk,by simp[ok'],by simp[ok']⟩
   ·by_cases e2:i=j
    ·subst e2;rw[hoj]at h1;cases h1;exact⟨oj',gj,by simp[oj'],by simp[oj']⟩
    ·exact⟨o,by rw[go i e1 e2];exact h1,Nat.le_refl _,λ_=>rfl⟩
 refine⟨σ',⟨by simp[σ',qo,H.len],?_,?_,?_⟩,hext,?_⟩
 ·intro i i' o o' b h1 h2 h3 h4;rcases blk i o b h1 h3 with⟨rfl,g1⟩|⟨g0,g1,g2⟩<;>rcases blk i' o' b h2 h4 with⟨rfl,g1'⟩|⟨g0',g1',g2'⟩
  ·rfl
  ·exact absurd (H.inj i' j o' oj b g2' hoj h4 g1) g1'
  ·exact absurd (H.inj i j o oj b g2 hoj h3 g1') g1
  ·exact H.inj i i' o o' b g2 g2' h3 h4
 ·intro i o b h1 h2;rcases blk i o b h1 h2 with⟨_,g1⟩|⟨_,_,g2⟩
  ·exact H.lt j oj b hoj g1
  ·exact H.lt i o b g2 h2
 ·intro i a o ha ho
  by_cases e1:i=k
  ·subst e1;have hkh:i<(qo j h (.emp (vj+1))).length:=by rw[qK,<-H.len];exact hkl
   have:=jk (o:= .mem (ok.ver+1) ty cs) hkh
   unfold qt at this;rw[this]at ha;cases ha;rw[gk]at ho;cases ho;exact⟨rfl,m2,b,arr,m3,m4,m5,m6,m7,λi c x hc hx=>(m8 i c x hc hx).ext hext⟩
  ·by_cases e2:i=j
   ·subst e2;have hjh:i<h.length:=by rw[<-H.len];exact hjl
    simp only[qo]at ha;rw[List.getElem?_set_ne hne,List.getElem?_set_self hjh]at ha;cases ha;rw[gj]at ho;cases ho;exact⟨by simp[oj',m1],rfl⟩
   ·rw[go i e1 e2]at ho;simp only[qo]at ha;rw[List.getElem?_set_ne (λe=>e1 e.symm),List.getElem?_set_ne (λe=>e2 e.symm)]at ha;exact (H.obj i a o ha ho).ext hext (λ_ _=>rfl)
 ·intro sz off len x hx;cases hx with
  |imm h=>cases h
  |osl o ho hs hle hh=>
   rw[hoj]at ho;cases ho;refine .osl ok' gk hs (Nat.le_refl _) (λ_=> ?_);exact hh m1
def fnM(rs:List RV)(h0:up)(k:Nat)(K:AV->up->Prop):Ex->Nx
 | .exit _,_,_=>False
 |_,t,hh=> ∃(j vj sz off len:Nat) (ty:TypeId) (cs:Qt) (tl:up),kS t hh rs∧fF (jd t hh rs)= .osl j vj sz off len∧hh=h0++tl∧h0.length<=j∧qt j hh=some (.mem vj ty cs)∧
   (∀c∈cs,qR h0.length c=true)∧qI h0 k=true∧K (.osl k (qq (qt k h0)+1) sz off len) (qo k h0 (.mem (qq (qt k h0)+1) ty cs))
theorem i7{P:Program}{f nt ns:Nat}{rs:List RV}{c:C}(hf:qJ P f nt ns rs c){args:Qt}{h:up}{K:AV->up->Prop}(k:Nat)(ha:args.length<=nt)
  (hw:qU P h.length c (fnM rs h k K) (args++List.replicate (nt-args.length) .undef) (h++List.replicate ns (.emp 0))):zZ P f args h K:=by
 obtain⟨fn,body,js,imp,wks,h1,h2,h3,rfl,rfl,h6,h7⟩:=hf;refine⟨by simp[okF,h1,h2,h3],λw σ xs H hv=> ?_⟩;refine callsIn_of_wp_marks h1 h2 trivial ?_;obtain⟨p1,p2⟩:=H.pushN js.length;have hsr:SR w.heap.size w (σ++List.replicate js.length ⟨none,0,0,0⟩) (args++List.replicate (fn.ntmps-args.length) .undef) (h++List.replicate js.length (.emp 0))
   { tmps:=xs.toArray++Array.replicate (fn.ntmps-xs.toArray.size) Go.undef,defers:= [] }:=by
  refine⟨p1,by simp[hv.1],λi c x hc hx=> ?_,⟨[],rfl,.nil,Nat.le_refl _,by simp⟩⟩;rw[List.getElem?_append]at hc;simp only[Array.getElem?_append]at hx;have hz:xs.toArray.size=args.length:=by simp[hv.1]
  split at hc
  ·rename_i hi;rw[if_pos (by omega)]at hx;exact (hv.2 i c x hc (by simpa using hx)).ext p2
  ·rw[List.getElem?_replicate]at hc;split at hc
   ·cases hc;exact .imm .undef
   ·cases hc
 refine wpIn_mono (gR (b:=h.length) h7 w.heap.size none _ w _ _ _ _ hw (by simp) hsr) ?_;rintro e a' w' ⟨z,σ',t',hh,he,g1,g2,g3⟩;have key:(∃(j vj sz off len:Nat) (ty:TypeId) (cs:Qt) (tl:up),kS t' hh rs∧fF (jd t' hh rs)= .osl j vj sz off len∧hh=h++tl∧h.length<=j∧qt j hh=some (.mem vj ty cs)∧
   (∀c∈cs,qR h.length c=true)∧qI h k=true∧K (.osl k (qq (qt k h)+1) sz off len) (qo k h (.mem (qq (qt k h)+1) ty cs)))->
   LeavesInM Fence.wide 0 P fn a'.tmps (λe w'=> ∃v σ' r h',K r h'∧e= .returned v∧HR w' σ' h'∧VR w' σ' r v∧Ext w σ w' σ') a'.defers .returning w':=by
  rintro⟨j,vj,sz,off,len,ty,cs,tl,k1,k2,rfl,k3,k4,k5,k6,hK⟩;obtain⟨ms,d1,d2,d3,d4⟩:=g1.df;rw[d1];refine xL (N:=w.heap.size) ms w' d2 (λr hr=>⟨(d4 r hr).1,(d4 r hr).2.2.2⟩) (λw1 e1=> ?_);have H1:=g1.hr.dt e1;obtain⟨v,v1,v2⟩:=aG (P:=P) H1 g1.sz (λi c x hc hx=>(g1.tm i c x hc hx).dt e1) h6 k1;rw[k2]at v2;have ee:Ext w σ w1 σ':=(p2.trans g2).dt e1;have hkl:k<h.length:=by
   have:=k6
   unfold qI at this;split at this
   ·rename_i hx;exact zD hx
   ·rename_i hx;exact zD hx
   ·rename_i hx;exact zD hx
   ·cases this
  have hkt:qI (h++tl) k=true:=by unfold qI at k6 ⊢;rw[zk hkl];exact k6
  obtain⟨σ2,q1,q2,q3⟩:=H1.move k4 hkt (by omega);have q3':=q3 _ _ _ _ v2;rw[zk hkl]at q1 q3';have eh:qo k (qo j (h++tl) (.emp (vj+1))) (.mem (qq (qt k h)+1) ty cs)=qo k h (.mem (qq (qt k h)+1) ty cs)++qo (j-h.length) tl (.emp (vj+1)):=by
   unfold qo;rw[List.set_append_right _ _ k3,List.set_append_left _ _ hkl]
  rw[eh]at q1;obtain⟨m1,m2⟩:=HR.trunc H (ee.trans q2) q1 qK (λo ho=>by
   rcases jg ho with h1|rfl
   ·exact .inl h1
   ·exact .inr k5)
  refine⟨v,v1,v,_,_,_,hK,rfl,m1,?_,m2⟩;cases q3' with
  |imm h=>cases h
  |osl o ho hs hle hh=>
   refine .osl o ?_ hs hle hh;rw[List.getElem?_take,if_pos hkl];exact ho
 cases e with
 |normal=>cases he;exact key g3
 |ret=>cases he;exact key g3
 |exit id=>cases he;exact g3.elim
 |goto l=>cases he
 |panic c=>cases he
 |outgrown=>cases he
theorem eZ{P:Program}{f nt ns:Nat}{rs:List RV}{c:C}(hf:qJ P f nt ns rs c){args:Qt}{h:up}{r:AV}{h':up}(k:Nat)(ha:args.length<=nt)
  (hw:qU P h.length c (fnM rs h k λr1 h1=>r1=r∧h1=h') (args++List.replicate (nt-args.length) .undef) (h++List.replicate ns (.emp 0))):ACalls P f args h r h':=(i7 hf k ha hw).calls
end AF
end
section
namespace AF
open Go
section
variable {P : Program} {b : Nat} {r : List RO} {K : Nx} {t : Qt} {h : up} {d : Option Nat} {xs : List X} {j : Nat} {u : Bool}
theorem wg_bslc{i z n:Nat}{ty:TypeId}{zs:Qt}{ps:List (Nat×Nat)}:opsA P b (⟨d,some (j,u),.bslc i z n ty zs ps,xs⟩::r) K t h=
  (zy (zE j t)=true∧(qO (zE j t) u=true->flags (evs t xs)∧effE b h (.bslc i z n ty zs ps) (strips (evs t xs)) t d (opsA P b r K))∧(qO (zE j t) u=false->opsA P b r K (qT t d .undef) h)):=by simp only[opsA,stepO,kt,R.kd]
end
attribute [go_sem] wg_bslc
end AF
end
section
namespace AF
open Go
def qv(o:Option AObj)(ver:Nat):Option Qt:=
 match o with
 |some (.mem v _ cs)=>if v=ver then some cs else none
 |_=>none
def qF(o:Option AObj)(ver:Nat):Bool:=
 match o with
 |some (.mem v _ _)=>v==ver
 |some (.emp v)=>v==ver
 |_=>false
section
variable {h l : up} {i j k ver v : Nat} {o o' o'' : AObj} {ty : TypeId} {cs : Qt}
theorem zO:cellsOf h k ver=qv (qt k h) ver:=rfl
theorem jl:qz h k ver=qF (qt k h) ver:=rfl
theorem ql:qv (some (.mem v ty cs)) ver=if v=ver then some cs else none:=rfl
theorem vV:qF (some (.mem v ty cs)) ver=(v==ver):=rfl
theorem ay:qF (some (.emp v)) ver=(v==ver):=rfl
theorem qP(hne:k≠j):qt k (qo j h o)=qt k h:=by unfold qt qo;rw[List.getElem?_set_ne (λe=>hne e.symm)]
theorem be(hk:k<h.length):qt k (qo j h o++l)=qt k (qo j h o):=zk (by rw[qK];exact hk)
theorem bf(hk:k<h.length):qt k (qo i (qo j h o) o'++l)=qt k (qo i (qo j h o) o'):=zk (by rw[qK,qK];exact hk)
theorem bK(hk:k<h.length):qo k (qo j h o++l) o'=qo k (qo j h o) o'++l:=zw (by rw[qK];exact hk)
theorem bL(hk:k<h.length):qo k (qo i (qo j h o) o'++l) o''=qo k (qo i (qo j h o) o') o''++l:=zw (by rw[qK,qK];exact hk)
theorem kq(hne:i≠j):qo i (qo j h o) o'=qo j (qo i h o') o:=by unfold qo;rw[List.set_comm _ _ (λe=>hne e.symm)]
end
end AF
end
section
namespace AF
open Go
theorem wO{α β:Type}{f:α->Option β}: ∀ {l:List α} {ys:List β},l.mapM f=some ys->ys.length=l.length∧ ∀(i:Nat) x y,l[i]? =some x->ys[i]? =some y->f x=some y:=by
 intro l
 induction l with
 |nil=>intro ys h;simp at h;subst h;simp
 |cons a l ih=>
  intro ys h;rw[List.mapM_cons]at h;cases ha:f a with
  |none=>simp[ha]at h
  |some b=>
   cases hl:l.mapM f with
   |none=>simp[ha,hl]at h
   |some zs=>
    simp[ha,hl]at h;subst h;obtain⟨h1,h2⟩:=ih hl;refine⟨by simp[h1],λi x y hx hy=> ?_⟩;cases i with
    |zero=>simp at hx hy;subst hx hy;exact ha
    |succ i=>exact h2 i x y (by simpa using hx) (by simpa using hy)
section
variable {H : Type} {enc : TypeId × Value -> H} {P : Program} {w : World} {sp : Nat -> Bool} {held : Bool} {ow : Nat -> Prop}
end
theorem HR.nil(w:World):HR w [] []:=⟨rfl,by simp,by simp,by simp⟩
theorem YJ(b:Nat): ¬own [] b:=λ⟨k,o,h,_⟩=>by simp at h
theorem VRs.nil'{w:World}{σ:List OB}:VRs w σ [] []:=⟨rfl,by simp⟩
theorem VRs.cons'{w:World}{σ:List OB}{a:AV}{v:Value}{as:Qt}{vs:List Value}(h:VR w σ a v)(h':VRs w σ as vs):VRs w σ (a::as) (v::vs):=by
 refine⟨by simp[h'.1],λi c x hc hx=> ?_⟩;cases i with
 |zero=>simp at hc hx;subst hc hx;exact h
 |succ i=>exact h'.2 i c x (by simpa using hc) (by simpa using hx)
end AF
end
section
namespace AF
open Go Go.ChangeShapes Go.WideShapes Go.ChangeAt Go.RowKit
section
variable {H : Type} {enc : TypeId × Value -> H} {P : Program} {W W' : World}
theorem ed(hl:laidOutB P=true)(hb:Below W.heap.size W W'): ∀ {ts:List TypeId} {vs:List Value} {ds:List (DataW H)} {ps:List MemPlace},(∀t∈ts,P.readableRec t=true∧t<P.types.size)->
  (∀x∈ps,x.block<W.heap.size)->DataW.TrodAll enc P W 0 (λ_=>true) true ts vs ds ps->DataW.TrodAll enc P W' 0 (λb=>decide (b<W.heap.size)) true ts vs ds ps:=by
 intro ts
 induction ts with
 |nil=>
  intro vs ds ps _ _ h
  match vs,ds,h with
  | [],[],h=>exact h
 |cons t ts ih=>
  intro vs ds ps ht hp h
  match vs,ds,h with
  |v::vs,d::ds,⟨p,q,h1,h2,e⟩=>
   subst e;refine⟨p,q,?_,?_,rfl⟩
   ·exact Below.trod hl (ht t (by simp)).1 (ht t (by simp)).2 h1 hb (λx hx=>hp x (by simp[hx]))
   ·exact ih (λu hu=>ht u (by simp[hu])) (λx hx=>hp x (by simp[hx])) h2
theorem Jh{f:Func}{s:ChangeSpec}{args:Array Value}{ds:List (DataW H)}{before:List MemPlace}{tb:TypeId}(hl:laidOutB P=true)(hv:s.vars= [])(hfn:s.fn H ds= { results:= [.lit (.bool true)],args:=ds })
  (hrt:f.resultTypes= #[tb]) (htb:P.underlying tb=some .bool) (hro: ∀t∈f.params.toList,P.readableRec t=true∧t<P.types.size)
  (hW:DataW.Whole enc P f.params.toList s.vars false W args.toList ds [] before) (hA:DataW.TrodAll enc P W 0 (λ_=>true) true f.params.toList args.toList ds before) (hb:Below W.heap.size W W'):
  s.post enc P f false true false false W args (.bool true) W':=by
 have hlt: ∀x∈before,x.block<W.heap.size:=λx hx=>hW.lt x hx
 refine⟨ds,[],before,[],before,[],hW,?_,?_,?_,?_,λh=>by cases h⟩
 ·rw[List.append_nil,hfn,hrt];exact⟨[],[],shut_bool htb true,rfl,rfl⟩
 ·rw[List.append_nil,hfn];exact ed hl hb hro hlt hA
 ·rw[List.append_nil,hfn,hv];rfl
 ·exact World.keptBut_mono (λx hx=>⟨hx,.inr (.inl hx)⟩) (hb.frame (· ∈before))
end
end AF
end
section
namespace AF
open Go
def Vd(P:Program):Nat->List Field->Option Nat
 |n,[]=>some n
 |n,f::r=>if f.offset=n then Vd P (n+P.cellsOf f.type) r else none
def xN(P:Program):Nat->TypeId->Bool
 |0,_=>false
 |d+1,t=>match P.underlying t with
  |some .bool=>decide (P.cellsOf t=1)
  |some (.int _)=>decide (P.cellsOf t=1)
  |some .string=>decide (P.cellsOf t=1)
  |some (.slice e)=>decide (P.cellsOf t=1)&&(decide (0<P.cellsOf e)&&xN P d e)
  |some (.struct fs)=>decide (Vd P 0 fs.toList=some (P.cellsOf t))&&fs.toList.all λf=>xN P d f.type
  |_=>false
def je(P:Program):Nat->TypeId->Qt->Prop
 |0,_,_=>False
 |d+1,t,as=>match P.underlying t with
  |some .bool=> ∃b,as= [.bool b]
  |some (.int k)=> ∃n,as= [.int k n]∧(Lit.int k n).wf=true
  |some .string=> ∃s:List UInt8,as= [.str s]∧s.length<=maxLen
  |some (.slice e)=> ∃(n:Nat) (f:Nat->Qt),as= [.sl n f]∧n<=maxLen∧ ∀i,i<n->je P d e (f i)
  |some (.struct fs)=>as.length=P.cellsOf t∧ ∀f∈fs.toList,je P d f.type ((as.drop f.offset).take (P.cellsOf f.type))
  |_=>False
section
variable {H : Type} {enc : TypeId × Value -> H} {P : Program} {w : World} {held : Bool} {ow : Nat -> Prop}
structure vA (w:World) (ow:Nat->Prop) (as:Qt) (cs:List Value):Prop where
 len:cs.length=as.length
 one: ∀(i:Nat) v,cs[i]? =some v->v.oneCell'=true
 vi: ∀(i:Nat) c v,as[i]? =some c->cs[i]? =some v->VI w ow c v
theorem vA.single{a:AV}{v:Value}(h1:v.oneCell'=true)(h2:VI w ow a v):vA w ow [a] [v]:=by
 refine⟨rfl,λi x hx=> ?_,λi c x hc hx=> ?_⟩
 ·cases i<;>simp at hx;subst hx;exact h1
 ·cases i<;>simp at hx hc;subst hx hc;exact h2
theorem vA.append{as bs:Qt}{cs ds:List Value}(h:vA w ow as cs)(h':vA w ow bs ds):vA w ow (as++bs) (cs++ds):=by
 have hl:=h.len;refine⟨by simp[hl,h'.len],λi v hv=> ?_,λi c v hc hv=> ?_⟩
 ·rw[List.getElem?_append]at hv;split at hv
  ·exact h.one i v hv
  ·exact h'.one _ v hv
 ·rw[List.getElem?_append]at hc hv;split at hv
  ·rename_i hi;rw[if_pos (by omega)]at hc;exact h.vi i c v hc hv
  ·rename_i hi;rw[if_neg (by omega),<-hl]at hc;exact h'.vi _ c v hc hv
theorem fo{d fuel:Nat}(ih: ∀(t:TypeId) (cs:List Value) (dd:DataW H) (ps:List MemPlace),xN P d t=true->DataW.trod enc P w 0 (λ_=>true) held fuel t cs=some (dd,ps)-> ∃as,je P d t as∧as.length=P.cellsOf t∧vA w ow as cs){cs:List Value}:
  ∀(fs:List Field) (n m:Nat) (xs:List (DataW H×List MemPlace)),Vd P n fs=some m->(∀f∈fs,xN P d f.type=true)->m<=cs.length->
   fs.mapM (λf=>DataW.trod enc P w 0 (λ_=>true) held fuel f.type ((cs.drop f.offset).take (P.cellsOf f.type)))=some xs->
   n<=m∧ ∃as,(∀f∈fs,n<=f.offset∧je P d f.type ((as.drop (f.offset-n)).take (P.cellsOf f.type)))∧as.length=m-n∧vA w ow as ((cs.drop n).take (m-n)):=by
 intro fs
 induction fs with
 |nil=>
  intro n m xs ht _ hm _;cases ht;exact⟨Nat.le_refl _,[],by simp,by simp,⟨by simp,by simp,by simp⟩⟩
 |cons f r ihr=>
  intro n m xs ht hk hm hx;simp only[Vd]at ht;split at ht
  ·rename_i hoff;rw[List.mapM_cons]at hx;cases ha:DataW.trod enc P w 0 (λ_=>true) held fuel f.type ((cs.drop f.offset).take (P.cellsOf f.type))with
   |none=>simp[ha]at hx
   |some y=>
    cases hl:r.mapM (λf=>DataW.trod enc P w 0 (λ_=>true) held fuel f.type ((cs.drop f.offset).take (P.cellsOf f.type)))with
    |none=>simp[ha,hl]at hx
    |some zs=>
     obtain⟨g0,as1,g1,g2,g3⟩:=ihr (n+P.cellsOf f.type) m zs ht (λg hg=>hk g (by simp[hg])) hm hl;obtain⟨as0,k1,k2,k3⟩:=ih f.type _ y.1 y.2 (hk f (by simp)) (by rw[ha]);rw[hoff]at k3;refine⟨by omega,as0++as1,λg hg=> ?_,by rw[List.length_append,k2,g2];omega,?_⟩
     ·rcases List.mem_cons.1 hg with rfl|hg
      ·refine⟨by omega,?_⟩;rw[hoff,Nat.sub_self,List.drop_zero,List.take_append_of_le_length (by omega),List.take_of_length_le (by omega)];exact k1
      ·obtain⟨q1,q2⟩:=g1 g hg;refine⟨by omega,?_⟩;rw[List.drop_append,List.drop_of_length_le (by omega),List.nil_append,show g.offset-n-as0.length=g.offset-(n+P.cellsOf f.type) by omega];exact q2
     ·have e:(cs.drop n).take (m-n)=(cs.drop n).take (P.cellsOf f.type)++(cs.drop (n+P.cellsOf f.type)).take (m-(n+P.cellsOf f.type)):=by
       rw[show m-n=P.cellsOf f.type+(m-(n+P.cellsOf f.type)) by omega,List.take_add,List.drop_drop]
      rw[e];exact k3.append g3
  ·cases ht
theorem uC{a:Addr}{v:Value}(h:w.cell? a=some v): ∃b off,a=⟨b,off,none⟩∧b<w.heap.size:=by
 obtain⟨b,off,spot⟩:=a;unfold World.cell? at h;split at h
 ·rename_i c e f hb;split at h
  ·cases h
  ·rename_i hs;cases spot with
   |some _=>simp at hs
   |none=>exact⟨b,off,rfl,(Array.getElem?_eq_some_iff.1 hb).1⟩
 ·cases h
theorem rl(how: ∀b,¬ow b): ∀(d fuel:Nat) (t:TypeId) (cs:List Value) (dd:DataW H) (ps:List MemPlace),xN P d t=true->DataW.trod enc P w 0 (λ_=>true) held fuel t cs=some (dd,ps)->
  ∃as,je P d t as∧as.length=P.cellsOf t∧vA w ow as cs:=by
 intro d
 induction d with
 |zero=>intro fuel t cs dd ps hk;cases hk
 |succ d ih=>
  intro fuel t cs dd ps hk h;unfold xN at hk;unfold je;split at hk
  ·rename_i ht;have hc:=of_decide_eq_true hk;obtain⟨b,rfl,_⟩:=DataW.trod_bool ht h;exact⟨[.bool b],⟨b,rfl⟩,hc.symm,vA.single rfl .bool⟩
  ·rename_i k ht;have hc:=of_decide_eq_true hk;obtain⟨n,rfl,_,hw⟩:=DataW.trod_int ht h;exact⟨[.int k n],⟨n,rfl,hw⟩,hc.symm,vA.single rfl .int⟩
  ·rename_i ht;have hc:=of_decide_eq_true hk;obtain⟨s,rfl,_,hw⟩:=DataW.trod_string ht h;have hsz:s.data.toList.length<=maxLen:=by rw[Array.length_toList];exact hw
   exact⟨[.str s.data.toList],⟨_,rfl,hsz⟩,hc.symm,vA.single rfl (by have:= @VI.str w ow s.data.toList;rw[Array.toArray_toList]at this;exact this)⟩
  ·rename_i e ht;simp only[Bool.and_eq_true,decide_eq_true_eq]at hk;obtain⟨hc,hpos,hk⟩:=hk;cases fuel with
   |zero=>simp[DataW.trod]at h
   |succ fuel=>
    have hcs:(cs= [.slice none 0 0])∨ ∃a len cap,cs= [.slice (some a) len cap]:=by
     unfold DataW.trod at h;rw[ht]at h;split at h<;>first|(rename_i g _;cases g;done)|skip
     all_goals first|(rename_i g;cases g;done)|skip
     all_goals first|exact .inl rfl|exact .inr ⟨_,_,_,rfl⟩|(cases h;done)
    rcases hcs with rfl|⟨a,len,cap,rfl⟩
    ·exact⟨[.sl 0 λ_=> []],⟨0,λ_=> [],rfl,Nat.zero_le _,λi hi=>absurd hi (Nat.not_lt_zero _)⟩,hc.symm,vA.single rfl .nilsl⟩
    ·simp only[DataW.trod,ht]at h;split at h
     ·rename_i hcc;obtain⟨_,c1,c2⟩:=hcc;rw[Option.bind_eq_some_iff]at h;obtain⟨elems,hm,hrest⟩:=h;rw[Option.map_eq_some_iff]at hrest;obtain⟨rest,hrest,_⟩:=hrest
      try simp only[if_true]at hrest
      obtain⟨m1,m2⟩:=wO hm;obtain⟨r1,r2⟩:=wO hrest;simp only[List.length_range]at m1 r1;have all: ∀i,i<cap-> ∃x,((w.cells? 0 (a.add (i*P.cellsOf e)) (P.cellsOf e)).bind (DataW.trod enc P w 0 (λ_=>true) held fuel e))=some x:=by
       intro i hi
       by_cases hl:i<len
       ·exact⟨_,m2 i i _ (by simp[hl]) (List.getElem?_eq_getElem (by omega))⟩
       ·have:=r2 (i-len) (i-len) _ (by rw[List.getElem?_range (by omega)]) (List.getElem?_eq_getElem (by omega))
        rw[show len+(i-len)=i by omega]at this;exact⟨_,this⟩
      by_cases hcap:cap=0
      ·subst hcap
       have:len=0:=by omega
       subst this;exact⟨[.sl 0 λ_=> []],⟨0,λ_=> [],rfl,Nat.zero_le _,λi hi=>absurd hi (Nat.not_lt_zero _)⟩,hc.symm,vA.single rfl .nilsl⟩
      ·obtain⟨x0,h0⟩:=all 0 (by omega);rw[Option.bind_eq_some_iff]at h0;obtain⟨cs0,h0,_⟩:=h0;rw[Nat.zero_mul]at h0;have hadd0:a.add 0=a:=by simp[Addr.add]
       rw[hadd0]at h0;unfold World.cells? at h0;rw[if_pos (Nat.zero_le _)]at h0;obtain⟨n1,n2⟩:=wO h0;simp only[List.length_range]at n1;have hcell:=n2 0 0 _ (by simp[hpos]) (List.getElem?_eq_getElem (show 0<cs0.length by omega));rw[hadd0]at hcell;obtain⟨b,off,rfl,hlt⟩:=uC hcell;have hadd: ∀n,(⟨b,off,none⟩:Addr).add n=⟨b,off+n,none⟩:=by
        intro n;unfold Addr.add;split
        ·rename_i h;subst h;rfl
        ·rfl
       have hadd2: ∀n m,(⟨b,off+n,none⟩:Addr).add m=⟨b,off+n+m,none⟩:=by
        intro n m;unfold Addr.add;split
        ·rename_i h;subst h;rfl
        ·rfl
       have key: ∀i,i<len-> ∃(as:Qt) (cs:List Value),je P d e as∧as.length=P.cellsOf e∧vA w ow as cs∧(∀(j:Nat) v,cs[j]? =some v->w.cell? ⟨b,off+i*P.cellsOf e+j,none⟩=some v):=by
        intro i hi;obtain⟨x,hx⟩:=all i (by omega);rw[Option.bind_eq_some_iff]at hx;obtain⟨cs,h3,h4⟩:=hx;obtain⟨as,f1,f2,f3⟩:=ih fuel e cs x.1 x.2 hk h4;rw[hadd]at h3;unfold World.cells? at h3;rw[if_pos (Nat.zero_le _)]at h3;obtain⟨n1,n2⟩:=wO h3;simp only[List.length_range]at n1;refine⟨as,cs,f1,f2,f3,λj v hj=> ?_⟩;have hjl:j<P.cellsOf e:=by have:=(List.getElem?_eq_some_iff.1 hj).1;omega
        have:=n2 j j v (by simp[hjl]) hj
        rw[hadd2]at this;exact this
       have ex: ∃g:Nat->Qt×List Value,∀i,i<len->je P d e (g i).1∧(g i).1.length=P.cellsOf e∧vA w ow (g i).1 (g i).2∧(∀(j:Nat) v,(g i).2[j]? =some v->w.cell? ⟨b,off+i*P.cellsOf e+j,none⟩=some v):=by
        refine⟨λi=>if hi:i<len then ((key i hi).choose,(key i hi).choose_spec.choose) else ([],[]),λi hi=> ?_⟩;simp only[dif_pos hi];exact (key i hi).choose_spec.choose_spec
       obtain⟨g,hg⟩:=ex;refine⟨[.sl len λi=>(g i).1],⟨len,λi=>(g i).1,rfl,Nat.le_trans c1 c2,λi hi=>(hg i hi).1⟩,hc.symm,vA.single rfl (.sl (P.cellsOf e) b off cap (λi j=>(g i).2.getD j Go.undef) c1 c2 (λ_=>how b) hlt (λi hi=>(hg i hi).2.1) (λi j hi hj=> ?_) (λi j hi hj=> ?_) (λi j c hi hc=> ?_))⟩
       ·obtain⟨_,q2,q3,q4⟩:=hg i hi;have hl:=q3.len;have e:(g i).2[j]? =some (g i).2[j]:=List.getElem?_eq_getElem (by omega);rw[q4 j _ e,List.getD_eq_getElem?_getD,e];rfl
       ·obtain⟨_,q2,q3,q4⟩:=hg i hi;have hl:=q3.len;have e:(g i).2[j]? =some (g i).2[j]:=List.getElem?_eq_getElem (by omega);rw[List.getD_eq_getElem?_getD,e];exact q3.one j _ e
       ·obtain⟨_,q2,q3,q4⟩:=hg i hi;have hl:=q3.len;have hj:=(List.getElem?_eq_some_iff.1 hc).1;have e:(g i).2[j]? =some (g i).2[j]:=List.getElem?_eq_getElem (by omega);rw[List.getD_eq_getElem?_getD,e];exact q3.vi j c _ hc e
     ·cases h
  ·rename_i fs ht;simp only[Bool.and_eq_true,decide_eq_true_eq,List.all_eq_true]at hk;obtain⟨htile,hk⟩:=hk;cases fuel with
   |zero=>simp[DataW.trod]at h
   |succ fuel=>
    simp only[DataW.trod,ht]at h;split at h
    ·rename_i hcl;rw[Option.map_eq_some_iff]at h;obtain⟨xs,hm,_⟩:=h;obtain⟨_,as,g1,g2,g3⟩:=fo (λt cs dd ps=>ih fuel t cs dd ps) fs.toList 0 (P.cellsOf t) xs htile hk (by omega) hm;rw[Nat.sub_zero]at g2 g3;rw[List.drop_zero,List.take_of_length_le (by omega)]at g3;exact⟨as,⟨g2,λf hf=>by have:=(g1 f hf).2;rwa [Nat.sub_zero]at this⟩,g2,g3⟩
    ·cases h
  ·cases hk
theorem J4(how: ∀b,¬ow b){d:Nat}{t:TypeId}{cs:Array Value}{dd:DataW H}{ps:List MemPlace}(hk:xN P d t=true)(h:DataW.Trod enc P w 0 (λ_=>true) held t (.agg cs) dd ps): ∃as,je P d t as∧VI w ow (.agg as) (.agg cs):=by
 obtain⟨fuel,h⟩:=h;obtain⟨as,g1,g2,g3⟩:=rl how d fuel t _ dd ps hk h;refine⟨as,g1,.agg ?_ (λi x hx=>g3.one i x ?_) (λi c x hc hx=>g3.vi i c x hc ?_)⟩
 ·have:=g3.len;simpa[Value.cells] using this
 ·simpa[Value.cells] using hx
 ·simpa[Value.cells] using hx
end
end AF
end
section
namespace AF
open Go
def ze(v:Nat)(ty:TypeId)(cs:Qt):AObj:=if cs= [] then .emp v else .mem v ty cs
section
variable {h l : up} {k v w n c : Nat} {ty : TypeId} {cs ms : Qt} {a : AV} {o : AObj}
theorem vn(h:cs≠ []):ze v ty cs= .mem v ty cs:=if_neg h
theorem liveS_own0:qz (ze v ty cs::l) 0 w=(v==w):=by unfold ze;split<;>rfl
theorem tyOk_own:nM (some (ze v ty cs)) ty=true:=by
 unfold ze;split
 ·rfl
 ·simp[nM]
theorem cells_own0:((cellsOf (ze v ty cs::l) 0 v).getD [])=cs:=by
 unfold ze;split
 ·rename_i e;rw[e];rfl
 ·rw[cellsOf_0,if_pos rfl];rfl
theorem cellsS_own0:((cellsOf (ze v ty cs::l) 0 v).isSome=true)=(cs≠ []):=by
 unfold ze;split
 ·rename_i e;rw[e];simp[cellsOf,qt]
 ·rename_i e;rw[cellsOf_0,if_pos rfl];simp[e]
theorem QS{b:AV}:gE (some (ze v ty cs)) ty w c (n+1) (b::ms)=ze (w+1) ty (cs.take c++b::ms):=by
 rw[show ze (w+1) ty (cs.take c++b::ms)= .mem (w+1) ty (cs.take c++b::ms)from vn (by simp)];unfold ze;split
 ·rename_i e;rw[e];simp[gE]
 ·rfl
theorem appO_own1{b:AV}:gE (some (ze v ty cs)) ty w c 1 (b::ms)=ze (w+1) ty (cs.take c++b::ms):=QS (n:=0)
end
attribute [go_sem] liveS_own0 tyOk_own cells_own0 cellsS_own0 appO_own1
end AF
end
section
namespace AF
open Go
def LowI(h hh:up):Prop:=hh.length=h.length∧ ∀o∈hh,o∈h∨(lowO h.length o∧lowO (h.length+1) o)
theorem LowI.refl(h:up):LowI h h:=⟨rfl,λ_ ho=> .inl ho⟩
theorem kC{hh tl:up}{o:AObj}{k:Nat}(h:hh.length=k):qt k (hh++o::tl)=some o:=by subst h;exact getO_app0
theorem xR{hh tl:up}{o o':AObj}{k:Nat}(h:hh.length=k):qo k (hh++o::tl) o'=hh++o'::tl:=by subst h;exact setO_app0
def QD(P:Program)(f:FuncId)(cap:Qt)(xs:List Qt):Prop:=
 ∀(h:up) (ts:Qt) (L:LInfo) (S:Nat->up->Prop) (E:LS->up->Prop),
  (∀i hh,S i hh->LowI h hh)->(∀s hh,E s hh->LowI h hh)->
  (∀i hh tl,(hi:i<xs.length)->S i hh->jZ P h.length (xs[i]) (hh++ .lp .ready ts L::tl) (λr h'=> ∃hh',(r= .bool true∧S (i+1) hh'∧h'=hh'++ .lp .ready ts L::tl)∨(∃s,r= .bool false∧E s hh'∧h'=hh'++ .lp s ts L::tl)))->
  S 0 h->(∀c∈ts,qR (h.length+1) c=true)->
  zZ P f (.yld h.length::cap) (h++ [.lp .ready ts L]) (λ_ h'=> ∃hh,(S xs.length hh∧h'=hh++ [.lp .ready ts L])∨ ∃s,E s hh∧h'=hh++ [.lp s ts L])
theorem mA{P:Program}{f:FuncId}{cap:Qt}{xs:List Qt}(hf:QD P f cap xs){ps:List Nat}{b:Nat}{x y:C}{Q:Ex->Nx}{ts:Qt}{h:up}(hps: ∀a∈xs,a.length=ps.length)
  (S:Nat->up->Prop) (E:Ex->up->Prop) (hS: ∀i hh,S i hh->LowI h hh) (hE: ∀s hh,E s hh->LowI h hh)
  (start:S 0 h) (hts: ∀c∈ts,qR (h.length+1) c=true)
  (body: ∀i hh tl L,(hi:i<xs.length)->S i hh->hh.length=h.length->
   qU P b x (λe t2 h2=>e= .normal∧h2=hh++ .lp .ready ts L::tl∧
    qU P b y (λe t3 h3=> ∃hh',h3=hh'++ .lp .busy ts L::tl∧hh'.length=h.length∧match e with
     | .normal=>S (i+1) hh'
     | .ret=>E .ret hh'
     | .exit id=>E (.exit id) hh') t2 (hh++ .lp .busy ts L::tl)) (kr ts ps (xs[i])) (hh++ .lp .ready ts L::tl))
  (done: ∀hh,S xs.length hh->Q .normal ts hh) (doneE: ∀e hh,E e hh->match e with
   | .normal=>False
   |e=>Q e ts hh):
  dJ P (.fn (.func f) [] cap) ps (qU P b x) (qU P b y) Q ts h:=by
 intro L hy;show zZ _ _ _ _ _;have key:=hf h ts L S (λs hh=>match s with
  | .ret=>E .ret hh
  | .exit id=>E (.exit id) hh
  |_=>False) hS
  (by
   intro s hh hs;cases s with
   |ret=>exact hE _ _ hs
   |exit id=>exact hE _ _ hs
   |ready=>exact hs.elim
   |busy=>exact hs.elim)
  (by
   intro i hh tl hi i4;have hlen:=(hS _ _ i4).1;refine hy h.length ts _ _ _ (kC hlen) (hps _ (List.getElem_mem hi)) ?_;have hb:=body i hh tl L hi i4 hlen;refine vQ ?_ hb;rintro e t2 h2 ⟨rfl,rfl,h3⟩;refine⟨rfl,⟨ts,kC hlen⟩,λts' hts'=> ?_⟩;rw[kC hlen]at hts';cases hts';rw[xR hlen];refine vQ ?_ h3;rintro e t3 h3' ⟨hh',rfl,g1,g2⟩;refine⟨ts,kC g1,?_⟩;cases e with
   |normal=>exact⟨hh',.inl ⟨rfl,g2,xR g1⟩⟩
   |ret=>exact⟨hh',.inr ⟨.ret,rfl,g2,xR g1⟩⟩
   |exit id=>exact⟨hh',.inr ⟨.exit id,rfl,g2,xR g1⟩⟩)
  start hts
 refine key.le (xc.refl _) ?_;rintro v h' ⟨hh,⟨g1,rfl⟩|⟨s,g1,rfl⟩⟩
 ·have hl:=hS _ _ g1;exact⟨v,VLe.refl _,hh,.ready,ts,L,rfl,hl.1,λo ho=>(hl.2 o ho).imp (λh=>h) And.left,done hh g1⟩
 ·cases s with
  |ready=>exact g1.elim
  |busy=>exact g1.elim
  |ret=>
   have hl:=hE _ _ g1;exact⟨v,VLe.refl _,hh,.ret,ts,L,rfl,hl.1,λo ho=>(hl.2 o ho).imp (λh=>h) And.left,doneE _ _ g1⟩
  |exit id=>
   have hl:=hE _ _ g1;exact⟨v,VLe.refl _,hh,.exit id,ts,L,rfl,hl.1,λo ho=>(hl.2 o ho).imp (λh=>h) And.left,doneE _ _ g1⟩
theorem hP{rs:List RV}{h0 h':up}{K:AV->up->Prop}{t:Qt}{r:AV}(hok:kS t h' rs)(hl:h'.length=h0.length)(hlow: ∀o∈h',o∈h0∨lowO h0.length o)(hK:K r h')
  (hv:VLe (frz (λk=>decide (h0.length<=k)) h' 8 (fF (jd t h' rs))) r):fnQ rs h0 K .ret t h':=
 ⟨r,h',hK,hok,⟨[],(List.append_nil _).symm⟩,hl,hlow,VOut.of 8 hv⟩
theorem jA{rs:List RV}{h0 h':up}{K:AV->up->Prop}{t:Qt}{r:AV}(hok:kS t h' rs)(hl:h'.length=h0.length)(hlow: ∀o∈h',o∈h0∨lowO h0.length o)(hK:K r h')
  (hv:VLe (frz (λk=>decide (h0.length<=k)) h' 8 (fF (jd t h' rs))) r):fnQ rs h0 K .normal t h':=
 ⟨r,h',hK,hok,⟨[],(List.append_nil _).symm⟩,hl,hlow,VOut.of 8 hv⟩
end AF
end
section
namespace AF
open Go
section
variable {P : Program} {b : Nat} {r : List RO} {K : Nx} {t : Qt} {h : up} {xs : List X}
theorem NI{d:Nat}:opsA P b (⟨some d,none,.b2s,xs⟩::r) K t h=(flags (evs t xs)∧okL h .b2s (strips (evs t xs))∧opsA P b r K (ji d t (valL h .b2s (strips (evs t xs)))) h):=by simp only[opsA,stepO,stepA,R.kd,qT]
theorem NQ{d:Option Nat}:opsA P b (⟨d,none,.s2b,xs⟩::r) K t h=(flags (evs t xs)∧effE b h .s2b (strips (evs t xs)) t d (opsA P b r K)):=by simp only[opsA,stepO,stepA,R.kd]
theorem LL{nx:Qt->up->Prop}{d:Option Nat}{s:List UInt8}:effE b h .s2b [.str s] t d nx=((s.length:Int)<=140737488355328∧nx (qT t d (.sl s.length λi=> [.int .u8 ((s.getD i 0).toNat:Int)])) h):=(rfl)
end
theorem w_gix{P:Program}{b:Nat}{r:List RO}{K:Nx}{t:Qt}{h:up}{xs:List X}{d:Option Nat}{g n sz:Nat}:opsA P b (⟨d,none,.gix g n sz,xs⟩::r) K t h=(flags (evs t xs)∧effE b h (.gix g n sz) (strips (evs t xs)) t d (opsA P b r K)):=by simp only[opsA,stepO,stepA,R.kd]
attribute [go_sem] w_gix
theorem Wb{b:Nat}{t:Qt}{h:up}{nx:Qt->up->Prop}{d:Option Nat}{g n sz:Nat}{k:IntKind}{i:Int}{cs:Qt}(hg:zQ h g cs)(h0:0<=i∧i<n)(h2:cs.length=n*sz)(hn:nx (qT t d (.ip ((cs.drop (i.toNat*sz)).take sz))) h):
  effE b h (.gix g n sz) [.int k i] t d nx:=⟨cs,hg,h0,h2,hn⟩
theorem zQ.app{h l:up}{g:Nat}{cs:Qt}(hg:zQ h g cs):zQ (h++l) g cs:=by
 obtain⟨k,bs,G,h1,h2⟩:=hg;exact⟨k,bs,G,by rw[List.getElem?_append_left (List.getElem?_eq_some_iff.1 h1).1];exact h1,h2⟩
theorem cH(c:UInt8):wz (.int .u8 (c.toNat:Int))=c:=by simp[wz]
theorem dx(c:UInt8):ax (.int .u8 (c.toNat:Int)):=by
 have:=c.toNat_lt
 exact⟨by omega,by omega⟩
theorem jx(s:List UInt8):(zz s).length=s.length:=by simp[zz]
theorem gh{g:up}:valL g .b2s [.nl]= .str []:=rfl
theorem mq{g:up}:okL g .b2s [.nl]=True:=rfl
theorem eE{g:up}{k v z p n:Nat}:valL g .b2s [.osl k v z p n]= .str (((((cellsOf g k v).getD []).drop p).take n).map wz):=rfl
theorem fA{g:up}{k v z p n:Nat}:okL g .b2s [.osl k v z p n]=(qz g k v=true∧z=1∧p+n<=((cellsOf g k v).getD []).length∧ ∀c∈((((cellsOf g k v).getD []).drop p).take n),ax c):=rfl
theorem YO{x:AV}{q:Bool}:jX (.bool false) x (.bool q)= .bool q:=by
 unfold jX;simp only[AV.strip,wy];split
 ·rename_i p' q' h1 h2;cases h2;simp
 ·simp
theorem YP{y:AV}{p:Bool}:jX (.bool true) (.bool p) y= .bool p:=by
 unfold jX;simp only[AV.strip,wy];split
 ·rename_i p' q' h1 h2;cases h1;simp
 ·simp
attribute [go_sem] YO YP
theorem pE{P:Program}{f:FuncId}{first cap args:Qt}{d:Option Nat}{nx:Nx}{t:Qt}{h:up}{R:AV->up->Prop}(hc:zZ P f (first++args++cap) h R)(hn: ∀v h',R v h'->nx (qT t d v) h'):wA P (.fn (.func f) first cap::args) d nx t h:=⟨R,hc,hn⟩
theorem qE{P:Program}{f:Nat}{first cap args:Qt}{d:Option Nat}{nx:Nx}{t:Qt}{h:up}{v:AV}(hc:ACalls P f (first++args++cap) h v h)(hn:nx (qT t d v) h):wA P (.fn (.func f) first cap::args) d nx t h:=⟨_,hc.toQ,by rintro _ _ ⟨rfl,rfl⟩;exact hn⟩
attribute [go_sem] NI NQ LL gh mq eE fA
end AF
end
section
namespace AF
open Go
section
variable {P : Program} {b : Nat} {r : List RO} {K : Nx} {t : Qt} {h : up} {xs : List X}
end
theorem valL_capnl{g:up}:valL g .cap [.nl]= .int .i64 0:=rfl
theorem sK{g:up}:okL g .cap [.nl]=True:=rfl
theorem nF{g:up}{z:Nat}{lo hi:Bool}{bs:Qt}:valL g (.slc z lo hi) (.nl::bs)= .nl:=rfl
attribute [go_sem] valL_capnl sK nF
end AF
end
section
namespace AF
open Go
section
variable {P : Program} {b : Nat} {K : Nx} {t : Qt} {h : up}
theorem t_nil:x6 P b .nil K t h=K t h:=(rfl)
theorem t_one{o:RO}{r:DT}:x6 P b (.one o r) K t h=opsA P b [o] (x6 P b r K) t h:=(rfl)
theorem t_two{x y:DT}:x6 P b (.two x y) K t h=(x6 P b x K t h∧x6 P b y K t h):=(rfl)
theorem t_univ{r:DT}{d:Option Nat}{xs:List X}:x6 P b (.uni ⟨d,none,.callv,xs⟩ r) K t h=pC P (evs t xs) d (x6 P b r K) t h:=(rfl)
theorem pD{f:Nat}{first cap args:Qt}{d:Option Nat}{nx:Nx}{v:AV}(hc:ACalls P f (first++strips args++cap) h v h)(hf:flags (.fn (.func f) first cap::args))(hn:nx (qT t d v) h):pC P (.fn (.func f) first cap::args) d nx t h:=⟨hf,v,hc,hn⟩
theorem t_uni{r:DT}{d:Option Nat}{f:Nat}{p:Bool}{xs:List X}:x6 P b (.uni ⟨d,none,.call f p,xs⟩ r) K t h=Zd P f (evs t xs) d (x6 P b r K) t h:=(rfl)
theorem kh{d:DT}{Q:Ex->Nx}(T:Qt)(H:up)(h1:x6 P b d (λt' h'=>t'=T∧h'=H) t h)(h2:Q .normal T H):qU P b (.draw d) Q t h:=
 ⟨_,h1,λt' h' ⟨e1,e2⟩=>by subst e1;subst e2;exact h2⟩
theorem Ze{f:Nat}{vs:Qt}{d:Option Nat}{nx:Nx}{r:AV}(hc: ∀h0,ACalls P f (strips vs) h0 r h0)(hf:flags vs)(hn:nx (qT t d r) h):Zd P f vs d nx t h:=⟨hf,r,hc,hn⟩
end
attribute [go_sem] t_univ t_nil t_one t_two t_uni
end AF
end
section
namespace AF
open Go
section
variable {P : Program} {b : Nat} {r : List RO} {K : Nx} {t : Qt} {h l : up} {xs : List X} {ks : AK} {ok : Bool} {z : AV} {d : Option Nat} {nx : Qt -> up -> Prop}
theorem w_cpy{sz:Nat}:opsA P b (⟨d,none,.cpy sz,xs⟩::r) K t h=(flags (evs t xs)∧effE b h (.cpy sz) (strips (evs t xs)) t d (opsA P b r K)):=by simp only[opsA,stepO,stepA,R.kd]
theorem e_cpy{sz sz' k ver off m:Nat}{y:AV}:effE b h (.cpy sz) [.osl k ver sz' off m,y] t d nx=((qz h k ver=true∧(cellsOf h k ver).isSome=true∧sz'=sz∧off+m*sz<=((cellsOf h k ver).getD []).length∧(qk h y).isSome=true∧((qk h y).getD (0,[])).2.length=((qk h y).getD (0,[])).1*sz)∧
  nx (qT t d (.int .i64 ((min ((qk h y).getD (0,[])).1 m:Nat):Int))) (qo k h (.mem ver (QK (qt k h)) (((cellsOf h k ver).getD []).take off++((qk h y).getD (0,[])).2.take (min ((qk h y).getD (0,[])).1 m*sz)++((cellsOf h k ver).getD []).drop (off+min ((qk h y).getD (0,[])).1 m*sz))))):=(rfl)
end
section
variable {h l : up} {ks : AK} {ok : Bool} {z x : AV} {k ver n v w : Nat} {es : List (AV × AV)} {o : AObj}
theorem strip_mp:(AV.mp k v).strip=AV.mp k v:=rfl
theorem flag_mp:(AV.mp k v).flag=true:=rfl
theorem solid_mp:(AV.mp k v).solid=true:=rfl
theorem cells_mp:(AV.mp k v).cells= [AV.mp k v]:=rfl
theorem frz_mp{fz:Nat->Bool}:frz fz h (n+1) (.mp k v)=if fz k then .undef else .mp k v:=rfl
end
attribute [go_sem] w_cpy e_cpy strip_mp flag_mp solid_mp cells_mp frz_mp
section
variable {P : Program} {b : Nat} {r : List RO} {K : Nx} {t : Qt} {h : up} {xs : List X} {d : Nat}
end
theorem valP_idxI{z n:Nat}{f:Nat->Qt}{k:IntKind}{i:Int}:valP (.idxI z) [.sl n f,.int k i]= .ip (f i.toNat):=rfl
theorem JD{z n:Nat}{f:Nat->Qt}{k:IntKind}{i:Int}:okP (.idxI z) [.sl n f,.int k i]=((0<=i∧i<n)∧(f i.toNat).length=z):=rfl
theorem Ql{z:Nat}{cs:Qt}:valP (.fldI z) [.ip cs]= .ip (cs.drop z):=rfl
theorem JC{z:Nat}{cs:Qt}:okP (.fldI z) [.ip cs]=(z<cs.length):=rfl
theorem nH{z:Option Nat}{cs:Qt}:valP (.loadI z) [.ip cs]=cut cs 0 z:=rfl
theorem sS{z:Option Nat}{cs:Qt}:okP (.loadI z) [.ip cs]=kc cs 0 z:=rfl
attribute [go_sem] valP_idxI JD Ql JC nH sS
end AF
end
theorem gdqA{α:Type _}{l:List α}{i:Nat}{a:α}:l.getD i a=l[i]?.getD a:=List.getD_eq_getElem?_getD
theorem zG{α:Type _}{l:List α}{i:Nat}(h:i<l.length):l[i]? =some l[i]:=List.getElem?_eq_getElem h
theorem qi{v:AF.AV}:AF.VLe v v:=AF.VLe.refl v
theorem aiA{p q:Prop}(h1:p)(h2:q):p∧q:=⟨h1,h2⟩
theorem eqt{p : Prop}(h : p) : p = True := eq_true h
theorem eqf{p : Prop}(h : ¬p) : p = False := eq_false h
theorem dqt{p : Prop}[Decidable p](h : p) : decide p = true := decide_eq_true h
theorem dqf{p : Prop}[Decidable p](h : ¬p) : decide p = false := decide_eq_false h
theorem ipo{c : Prop}{h : Decidable c}(hc : c){α : Sort _}{t e : α} : ite c t e = t := if_pos hc
theorem ine{c : Prop}{h : Decidable c}(hc : ¬c){α : Sort _}{t e : α} : ite c t e = e := if_neg hc
theorem nzl(n : Nat) : 0 <= n := Nat.zero_le n
theorem nlr(n : Nat) : n <= n := Nat.le_refl n
theorem nnz(n : Nat) : ¬n < 0 := Nat.not_lt_zero n
theorem lap{α : Type _}{as bs : List α} : (as ++ bs).length = as.length + bs.length := List.length_append
theorem lnl{α : Type _} : ([] : List α).length = 0 := rfl
theorem lco{α : Type _}{a : α}{as : List α} : (a :: as).length = as.length + 1 := rfl
theorem lan{α : Type _}(as : List α) : as ++ [] = as := List.append_nil as
theorem lna{α : Type _}(as : List α) : [] ++ as = as := rfl
theorem lca{α : Type _}{a : α}{as bs : List α} : (a :: as) ++ bs = a :: (as ++ bs) := rfl
theorem itn(n : Nat) : ((n : Int)).toNat = n := rfl
theorem lgs{α : Type _}{a : α}{i : Nat}{l : List α} : l[i]? = some a ↔ ∃ h : i < l.length, l[i] = a := List.getElem?_eq_some_iff
theorem ltl{α : Type _}{i : Nat}{l : List α}(h : l.length <= i) : l.take i = l := List.take_of_length_le h
theorem oma{p : Prop}(h : p := by omega) : p := h
open Go Go.Proofs AF
theorem tS{p:Prop}(h:p:=by repeat' first|(with_reducible apply aiA)|(apply qh;omega)|(apply qd;rfl)|exact qi):p:=h
theorem tT{α:Sort _}(e:α): ∃R,R=e:=⟨_,rfl⟩
theorem JN{p:Prop}(h:p:=by omega):p=True:=eq_true h
theorem JT{p:Prop}(h: ¬p:=by omega):p=False:=eq_false h
