import Derived.Test.YtiiegfkjmnoijaaGreatDoorK2
import Derived.Test.YtiiegfkjmnoijaaGreatDoorK3
import Derived.Below
import Derived.ChangeSame
import Derived.ChangeShapes
import Derived.CallsIn
import Derived.Carry
import Derived.RowKit
import Derived.WalkKit
import Derived.ProofKit
set_option linter.all false
section
namespace AF
open Go
set_option maxRecDepth 4000
def qf4(k:IntKind)(a c:Int):Int:=k.wrap (a*2^(min c.toNat k.bits))
def Hn(k:IntKind)(a c:Int):Int:=a.fdiv (2^(min c.toNat k.bits))
def VK(k:IntKind)(a c:Int):Int:=k.wrap (BitVec.ofInt k.bits a&&&BitVec.ofInt k.bits c).toNat
def orK(k:IntKind)(a c:Int):Int:=k.wrap (BitVec.ofInt k.bits a|||BitVec.ofInt k.bits c).toNat
def qgu(k:IntKind)(a c:Int):Int:=k.wrap (BitVec.ofInt k.bits a^^^BitVec.ofInt k.bits c).toNat
def CH(k:IntKind)(a c:Int):Int:=k.wrap (BitVec.ofInt k.bits a&&& ~~~ BitVec.ofInt k.bits c).toNat
theorem Ou{a0:AV}{r:w7}:qV 0 (a0::r)=a0:=rfl
theorem PW{a0 v:AV}{r:w7}:z6 0 (a0::r) v=v::r:=rfl
theorem Ov{a0 a1:AV}{r:w7}:qV 1 (a0::a1::r)=a1:=rfl
theorem PX{a0 a1 v:AV}{r:w7}:z6 1 (a0::a1::r) v=a0::v::r:=rfl
theorem Ox{a0 a1 a2:AV}{r:w7}:qV 2 (a0::a1::a2::r)=a2:=rfl
theorem PY{a0 a1 a2 v:AV}{r:w7}:z6 2 (a0::a1::a2::r) v=a0::a1::v::r:=rfl
theorem Oy{a0 a1 a2 a3:AV}{r:w7}:qV 3 (a0::a1::a2::a3::r)=a3:=rfl
theorem PZ{a0 a1 a2 a3 v:AV}{r:w7}:z6 3 (a0::a1::a2::a3::r) v=a0::a1::a2::v::r:=rfl
theorem Oz{a0 a1 a2 a3 a4:AV}{r:w7}:qV 4 (a0::a1::a2::a3::a4::r)=a4:=rfl
theorem P0{a0 a1 a2 a3 a4 v:AV}{r:w7}:z6 4 (a0::a1::a2::a3::a4::r) v=a0::a1::a2::a3::v::r:=rfl
theorem OA{a0 a1 a2 a3 a4 a5:AV}{r:w7}:qV 5 (a0::a1::a2::a3::a4::a5::r)=a5:=rfl
theorem P3{a0 a1 a2 a3 a4 a5 v:AV}{r:w7}:z6 5 (a0::a1::a2::a3::a4::a5::r) v=a0::a1::a2::a3::a4::v::r:=rfl
theorem OD{a0 a1 a2 a3 a4 a5 a6:AV}{r:w7}:qV 6 (a0::a1::a2::a3::a4::a5::a6::r)=a6:=rfl
theorem P4{a0 a1 a2 a3 a4 a5 a6 v:AV}{r:w7}:z6 6 (a0::a1::a2::a3::a4::a5::a6::r) v=a0::a1::a2::a3::a4::a5::v::r:=rfl
theorem OE{a0 a1 a2 a3 a4 a5 a6 a7:AV}{r:w7}:qV 7 (a0::a1::a2::a3::a4::a5::a6::a7::r)=a7:=rfl
theorem P5{a0 a1 a2 a3 a4 a5 a6 a7 v:AV}{r:w7}:z6 7 (a0::a1::a2::a3::a4::a5::a6::a7::r) v=a0::a1::a2::a3::a4::a5::a6::v::r:=rfl
theorem Ek{n:Nat}{a0 a1 a2 a3 a4 a5 a6 a7:AV}{r:w7}:qV (n+8) (a0::a1::a2::a3::a4::a5::a6::a7::r)=qV n r:=rfl
theorem F5{n:Nat}{a0 a1 a2 a3 a4 a5 a6 a7 v:AV}{r:w7}:z6 (n+8) (a0::a1::a2::a3::a4::a5::a6::a7::r) v=a0::a1::a2::a3::a4::a5::a6::a7::z6 n r v:=rfl
theorem Xv{n:Nat}{a0 a1 a2 a3 a4 a5 a6 a7 a8 a9 a10 a11 a12 a13 a14 a15 a16 a17 a18 a19 a20 a21 a22 a23 a24 a25 a26 a27 a28 a29 a30 a31:AV}{r:w7}:qV (n+32) (a0::a1::a2::a3::a4::a5::a6::a7::a8::a9::a10::a11::a12::a13::a14::a15::a16::a17::a18::a19::a20::a21::a22::a23::a24::a25::a26::a27::a28::a29::a30::a31::r)=qV n r:=rfl
theorem YS{n:Nat}{a0 a1 a2 a3 a4 a5 a6 a7 a8 a9 a10 a11 a12 a13 a14 a15 a16 a17 a18 a19 a20 a21 a22 a23 a24 a25 a26 a27 a28 a29 a30 a31 v:AV}{r:w7}:z6 (n+32) (a0::a1::a2::a3::a4::a5::a6::a7::a8::a9::a10::a11::a12::a13::a14::a15::a16::a17::a18::a19::a20::a21::a22::a23::a24::a25::a26::a27::a28::a29::a30::a31::r) v=a0::a1::a2::a3::a4::a5::a6::a7::a8::a9::a10::a11::a12::a13::a14::a15::a16::a17::a18::a19::a20::a21::a22::a23::a24::a25::a26::a27::a28::a29::a30::a31::z6 n r v:=rfl
theorem qfp{t:w7}{n:Nat}:ev t (.t n)=qV n t:=rfl
theorem qfo{t:w7}{v:AV}:ev t (.c v)=v:=rfl
theorem sU{b:Bool}:(AV.bool b).strip=(AV.bool b):=rfl
theorem QY{b:Bool}:(AV.bool b).flag=true:=rfl
theorem sG{b:Bool}:(AV.bool b).solid=true:=rfl
theorem rq{b:Bool}:(AV.bool b).cells= [(AV.bool b)]:=rfl
theorem KG{k:IntKind}{n:Int}:(AV.int k n).strip=(AV.int k n):=rfl
theorem W2{k:IntKind}{n:Int}:(AV.int k n).flag=true:=rfl
theorem Ko{k:IntKind}{n:Int}:(AV.int k n).solid=true:=rfl
theorem Qm{k:IntKind}{n:Int}:(AV.int k n).cells= [(AV.int k n)]:=rfl
theorem KL{s:List UInt8}:(AV.str s).strip=(AV.str s):=rfl
theorem W6{s:List UInt8}:(AV.str s).flag=true:=rfl
theorem Ks{s:List UInt8}:(AV.str s).solid=true:=rfl
theorem Qq{s:List UInt8}:(AV.str s).cells= [(AV.str s)]:=rfl
theorem Ag{n:Nat}{f:Nat->w7}:(AV.sl n f).strip=(AV.sl n f):=rfl
theorem D8{n:Nat}{f:Nat->w7}:(AV.sl n f).flag=true:=rfl
theorem Y3{n:Nat}{f:Nat->w7}:(AV.sl n f).solid=true:=rfl
theorem Wx{n:Nat}{f:Nat->w7}:(AV.sl n f).cells= [(AV.sl n f)]:=rfl
theorem KI{k v s p l:Nat}:(AV.osl k v s p l).strip=(AV.osl k v s p l):=rfl
theorem W4{k v s p l:Nat}:(AV.osl k v s p l).flag=true:=rfl
theorem Kq{k v s p l:Nat}:(AV.osl k v s p l).solid=true:=rfl
theorem Qo{k v s p l:Nat}:(AV.osl k v s p l).cells= [(AV.osl k v s p l)]:=rfl
theorem KE{c:w7}:(AV.agg c).strip=(AV.agg c):=rfl
theorem WY{c:w7}:(AV.agg c).flag=true:=rfl
theorem J8{c:w7}:(AV.agg c).solid=true:=rfl
theorem KN{c:w7}:(AV.tup c).strip=(AV.tup c):=rfl
theorem W7{c:w7}:(AV.tup c).flag=true:=rfl
theorem Qr{c:w7}:(AV.tup c).cells= [(AV.tup c)]:=rfl
theorem Ad{c:w7}:(AV.ip c).strip=(AV.ip c):=rfl
theorem D5{c:w7}:(AV.ip c).flag=true:=rfl
theorem Y0{c:w7}:(AV.ip c).solid=true:=rfl
theorem Wu{c:w7}:(AV.ip c).cells= [(AV.ip c)]:=rfl
theorem Af{k v p:Nat}:(AV.op k v p).strip=(AV.op k v p):=rfl
theorem D7{k v p:Nat}:(AV.op k v p).flag=true:=rfl
theorem Y2{k v p:Nat}:(AV.op k v p).solid=true:=rfl
theorem Ww{k v p:Nat}:(AV.op k v p).cells= [(AV.op k v p)]:=rfl
theorem sY  :AV.nilp.strip=AV.nilp:=rfl
theorem Q3  :AV.nilp.flag=true:=rfl
theorem sJ  :AV.nilp.solid=true:=rfl
theorem rx  :AV.nilp.cells= [AV.nilp]:=rfl
theorem Ae  :AV.nl.strip=AV.nl:=rfl
theorem D6  :AV.nl.flag=true:=rfl
theorem Y1  :AV.nl.solid=true:=rfl
theorem Wv  :AV.nl.cells= [AV.nl]:=rfl
theorem Ab{f:Fn}{a c:w7}:(AV.fn f a c).strip=(AV.fn f a c):=rfl
theorem D3{f:Fn}{a c:w7}:(AV.fn f a c).flag=true:=rfl
theorem YZ{f:Fn}{a c:w7}:(AV.fn f a c).solid=true:=rfl
theorem Ws{f:Fn}{a c:w7}:(AV.fn f a c).cells= [(AV.fn f a c)]:=rfl
theorem KO{k:Nat}:(AV.yld k).strip=(AV.yld k):=rfl
theorem W8{k:Nat}:(AV.yld k).flag=true:=rfl
theorem Kt{k:Nat}:(AV.yld k).solid=true:=rfl
theorem Qs{k:Nat}:(AV.yld k).cells= [(AV.yld k)]:=rfl
theorem nQ  :AV.nilfn.strip=AV.nilfn:=rfl
theorem rL  :AV.nilfn.flag=true:=rfl
theorem nG  :AV.nilfn.solid=true:=rfl
theorem mJ  :AV.nilfn.cells= [AV.nilfn]:=rfl
theorem KF  :AV.ifc.strip=AV.ifc:=rfl
theorem WZ  :AV.ifc.flag=true:=rfl
theorem J9  :AV.ifc.solid=true:=rfl
theorem Ql  :AV.ifc.cells= [AV.ifc]:=rfl
theorem nR  :AV.nilif.strip=AV.nilif:=rfl
theorem rM  :AV.nilif.flag=true:=rfl
theorem nH  :AV.nilif.solid=true:=rfl
theorem mK  :AV.nilif.cells= [AV.nilif]:=rfl
theorem nU:AV.undef.strip=AV.undef:=rfl
theorem rP:AV.undef.flag=true:=rfl
theorem Qk{c:w7}:(AV.agg c).cells=c:=rfl
theorem Ac{g:Bool}{v:AV}:(AV.gd g v).strip=v:=rfl
theorem D4{g:Bool}{v:AV}:(AV.gd g v).flag=g:=rfl
theorem qgk{P:Program}{b:Nat}{r:List RO}{K:Nx}{t:w7}{h:w6}{d:Nat} {x:X}:opsA P b (⟨some d,none,.mv,[x]⟩::r) K t h=((ev t x).flag=true∧opsA P b r K (z6 d t ((ev t x).strip)) h):=by simp only[opsA,stepO,stepA,R.kd,evs,flags,strips,qR,okP,okL,valP,valL,and_true,true_and,and_assoc]
theorem qd6{P:Program}{b:Nat}{r:List RO}{K:Nx}{t:w7}{h:w6}{d:Nat} {x:X}{j:Nat}{u:Bool}:opsA P b (⟨some d,some (j,u),.mv,[x]⟩::r) K t h=(qP (qV j t)=true∧(qx (qV j t) u=true->(ev t x).flag=true)∧opsA P b r K (z6 d t (.gd (qx (qV j t) u) ((ev t x).strip))) h):=by simp only[opsA,stepO,je,R.kd,evs,flags,strips,qR,okP,okL,valP,valL,and_true,true_and,and_assoc]
theorem qdD{P:Program}{b:Nat}{r:List RO}{K:Nx}{t:w7}{h:w6}{d:Nat}{q:BinOp}{x y:X}:opsA P b (⟨some d,none,.bin q,[x,y]⟩::r) K t h=((ev t x).flag=true∧(ev t y).flag=true∧xl q (ev t x).strip (ev t y).strip∧opsA P b r K (z6 d t (xg q (ev t x).strip (ev t y).strip)) h):=by simp only[opsA,stepO,stepA,R.kd,evs,flags,strips,qR,okP,okL,valP,valL,and_true,true_and,and_assoc]
theorem qbj{P:Program}{b:Nat}{r:List RO}{K:Nx}{t:w7}{h:w6}{d:Nat}{q:BinOp}{x y:X}{j:Nat}{u:Bool}:opsA P b (⟨some d,some (j,u),.bin q,[x,y]⟩::r) K t h=(qP (qV j t)=true∧(qx (qV j t) u=true->(ev t x).flag=true∧(ev t y).flag=true∧xl q (ev t x).strip (ev t y).strip)∧opsA P b r K (z6 d t (.gd (qx (qV j t) u) (xg q (ev t x).strip (ev t y).strip))) h):=by simp only[opsA,stepO,je,R.kd,evs,flags,strips,qR,okP,okL,valP,valL,and_true,true_and,and_assoc]
theorem RH{P:Program}{b:Nat}{r:List RO}{K:Nx}{t:w7}{h:w6}{d:Nat}{n:Bool}{xs:List X}:opsA P b (⟨some d,none,.bool n,xs⟩::r) K t h=(flags (evs t xs)∧okP (.bool n) (strips (evs t xs))∧opsA P b r K (z6 d t (valP (.bool n) (strips (evs t xs)))) h):=by simp only[opsA,stepO,stepA,R.kd,qR]
theorem GR{P:Program}{b:Nat}{r:List RO}{K:Nx}{t:w7}{h:w6}{d:Nat}{n:Bool}{xs:List X}{j:Nat}{u:Bool}:opsA P b (⟨some d,some (j,u),.bool n,xs⟩::r) K t h=(qP (qV j t)=true∧(qx (qV j t) u=true->flags (evs t xs)∧okP (.bool n) (strips (evs t xs)))∧opsA P b r K (z6 d t (.gd (qx (qV j t) u) (valP (.bool n) (strips (evs t xs))))) h):=by simp only[opsA,stepO,je,R.kd,qR]
theorem qgl{P:Program}{b:Nat}{r:List RO}{K:Nx}{t:w7}{h:w6}{d:Nat}{q:UnOp}{xs:List X}:opsA P b (⟨some d,none,.un q,xs⟩::r) K t h=(flags (evs t xs)∧okP (.un q) (strips (evs t xs))∧opsA P b r K (z6 d t (valP (.un q) (strips (evs t xs)))) h):=by simp only[opsA,stepO,stepA,R.kd,qR]
theorem qd7{P:Program}{b:Nat}{r:List RO}{K:Nx}{t:w7}{h:w6}{d:Nat}{q:UnOp}{xs:List X}{j:Nat}{u:Bool}:opsA P b (⟨some d,some (j,u),.un q,xs⟩::r) K t h=(qP (qV j t)=true∧(qx (qV j t) u=true->flags (evs t xs)∧okP (.un q) (strips (evs t xs)))∧opsA P b r K (z6 d t (.gd (qx (qV j t) u) (valP (.un q) (strips (evs t xs))))) h):=by simp only[opsA,stepO,je,R.kd,qR]
theorem RL{P:Program}{b:Nat}{r:List RO}{K:Nx}{t:w7}{h:w6}{d:Nat}{k:IntKind}{xs:List X}:opsA P b (⟨some d,none,.conv k,xs⟩::r) K t h=(flags (evs t xs)∧okP (.conv k) (strips (evs t xs))∧opsA P b r K (z6 d t (valP (.conv k) (strips (evs t xs)))) h):=by simp only[opsA,stepO,stepA,R.kd,qR]
theorem GU{P:Program}{b:Nat}{r:List RO}{K:Nx}{t:w7}{h:w6}{d:Nat}{k:IntKind}{xs:List X}{j:Nat}{u:Bool}:opsA P b (⟨some d,some (j,u),.conv k,xs⟩::r) K t h=(qP (qV j t)=true∧(qx (qV j t) u=true->flags (evs t xs)∧okP (.conv k) (strips (evs t xs)))∧opsA P b r K (z6 d t (.gd (qx (qV j t) u) (valP (.conv k) (strips (evs t xs))))) h):=by simp only[opsA,stepO,je,R.kd,qR]
theorem GI{P:Program}{b:Nat}{r:List RO}{K:Nx}{t:w7}{h:w6}{d:Nat}{k:NK}{n:Bool}{xs:List X}:opsA P b (⟨some d,none,.isnil k n,xs⟩::r) K t h=(flags (evs t xs)∧okP (.isnil k n) (strips (evs t xs))∧opsA P b r K (z6 d t (valP (.isnil k n) (strips (evs t xs)))) h):=by simp only[opsA,stepO,stepA,R.kd,qR]
theorem AM{P:Program}{b:Nat}{r:List RO}{K:Nx}{t:w7}{h:w6}{d:Nat}{k:NK}{n:Bool}{xs:List X}{j:Nat}{u:Bool}:opsA P b (⟨some d,some (j,u),.isnil k n,xs⟩::r) K t h=(qP (qV j t)=true∧(qx (qV j t) u=true->flags (evs t xs)∧okP (.isnil k n) (strips (evs t xs)))∧opsA P b r K (z6 d t (.gd (qx (qV j t) u) (valP (.isnil k n) (strips (evs t xs))))) h):=by simp only[opsA,stepO,je,R.kd,qR]
theorem qdA{P:Program}{b:Nat}{r:List RO}{K:Nx}{t:w7}{h:w6}{d:Nat}{ks:List AK}{n:Bool}{xs:List X}:opsA P b (⟨some d,none,.aeq ks n,xs⟩::r) K t h=(flags (evs t xs)∧okP (.aeq ks n) (strips (evs t xs))∧opsA P b r K (z6 d t (valP (.aeq ks n) (strips (evs t xs)))) h):=by simp only[opsA,stepO,stepA,R.kd,qR]
theorem qbh{P:Program}{b:Nat}{r:List RO}{K:Nx}{t:w7}{h:w6}{d:Nat}{ks:List AK}{n:Bool}{xs:List X}{j:Nat}{u:Bool}:opsA P b (⟨some d,some (j,u),.aeq ks n,xs⟩::r) K t h=(qP (qV j t)=true∧(qx (qV j t) u=true->flags (evs t xs)∧okP (.aeq ks n) (strips (evs t xs)))∧opsA P b r K (z6 d t (.gd (qx (qV j t) u) (valP (.aeq ks n) (strips (evs t xs))))) h):=by simp only[opsA,stepO,je,R.kd,qR]
theorem qdH{P:Program}{b:Nat}{r:List RO}{K:Nx}{t:w7}{h:w6}{d:Nat}{p:Nat}{n:Option Nat}{xs:List X}:opsA P b (⟨some d,none,.fld p n,xs⟩::r) K t h=(flags (evs t xs)∧okP (.fld p n) (strips (evs t xs))∧opsA P b r K (z6 d t (valP (.fld p n) (strips (evs t xs)))) h):=by simp only[opsA,stepO,stepA,R.kd,qR]
theorem qbl{P:Program}{b:Nat}{r:List RO}{K:Nx}{t:w7}{h:w6}{d:Nat}{p:Nat}{n:Option Nat}{xs:List X}{j:Nat}{u:Bool}:opsA P b (⟨some d,some (j,u),.fld p n,xs⟩::r) K t h=(qP (qV j t)=true∧(qx (qV j t) u=true->flags (evs t xs)∧okP (.fld p n) (strips (evs t xs)))∧opsA P b r K (z6 d t (.gd (qx (qV j t) u) (valP (.fld p n) (strips (evs t xs))))) h):=by simp only[opsA,stepO,je,R.kd,qR]
theorem qdG{P:Program}{b:Nat}{r:List RO}{K:Nx}{t:w7}{h:w6}{d:Nat}{i:Nat}{xs:List X}:opsA P b (⟨some d,none,.ext i,xs⟩::r) K t h=(flags (evs t xs)∧okP (.ext i) (strips (evs t xs))∧opsA P b r K (z6 d t (valP (.ext i) (strips (evs t xs)))) h):=by simp only[opsA,stepO,stepA,R.kd,qR]
theorem qbk{P:Program}{b:Nat}{r:List RO}{K:Nx}{t:w7}{h:w6}{d:Nat}{i:Nat}{xs:List X}{j:Nat}{u:Bool}:opsA P b (⟨some d,some (j,u),.ext i,xs⟩::r) K t h=(qP (qV j t)=true∧(qx (qV j t) u=true->flags (evs t xs)∧okP (.ext i) (strips (evs t xs)))∧opsA P b r K (z6 d t (.gd (qx (qV j t) u) (valP (.ext i) (strips (evs t xs))))) h):=by simp only[opsA,stepO,je,R.kd,qR]
theorem GG{P:Program}{b:Nat}{r:List RO}{K:Nx}{t:w7}{h:w6}{d:Nat}{z:w7}{ps:List (Nat×Nat)}{xs:List X}:opsA P b (⟨some d,none,.build z ps,xs⟩::r) K t h=(flags (evs t xs)∧okP (.build z ps) (strips (evs t xs))∧opsA P b r K (z6 d t (valP (.build z ps) (strips (evs t xs)))) h):=by simp only[opsA,stepO,stepA,R.kd,qR]
theorem AI{P:Program}{b:Nat}{r:List RO}{K:Nx}{t:w7}{h:w6}{d:Nat}{z:w7}{ps:List (Nat×Nat)}{xs:List X}{j:Nat}{u:Bool}:opsA P b (⟨some d,some (j,u),.build z ps,xs⟩::r) K t h=(qP (qV j t)=true∧(qx (qV j t) u=true->flags (evs t xs)∧okP (.build z ps) (strips (evs t xs)))∧opsA P b r K (z6 d t (.gd (qx (qV j t) u) (valP (.build z ps) (strips (evs t xs))))) h):=by simp only[opsA,stepO,je,R.kd,qR]
theorem qad{P:Program}{b:Nat}{r:List RO}{K:Nx}{t:w7}{h:w6}{d:Nat}{f:Fn}{n:Nat}{xs:List X}:opsA P b (⟨some d,none,.mkfn f n,xs⟩::r) K t h=(flags (evs t xs)∧okP (.mkfn f n) (strips (evs t xs))∧opsA P b r K (z6 d t (valP (.mkfn f n) (strips (evs t xs)))) h):=by simp only[opsA,stepO,stepA,R.kd,qR]
theorem G1{P:Program}{b:Nat}{r:List RO}{K:Nx}{t:w7}{h:w6}{d:Nat}{f:Fn}{n:Nat}{xs:List X}{j:Nat}{u:Bool}:opsA P b (⟨some d,some (j,u),.mkfn f n,xs⟩::r) K t h=(qP (qV j t)=true∧(qx (qV j t) u=true->flags (evs t xs)∧okP (.mkfn f n) (strips (evs t xs)))∧opsA P b r K (z6 d t (.gd (qx (qV j t) u) (valP (.mkfn f n) (strips (evs t xs))))) h):=by simp only[opsA,stepO,je,R.kd,qR]
theorem qah{P:Program}{b:Nat}{r:List RO}{K:Nx}{t:w7}{h:w6}{d:Nat} {xs:List X}:opsA P b (⟨some d,none,.slen,xs⟩::r) K t h=(flags (evs t xs)∧okP (.slen) (strips (evs t xs))∧opsA P b r K (z6 d t (valP (.slen) (strips (evs t xs)))) h):=by simp only[opsA,stepO,stepA,R.kd,qR]
theorem G4{P:Program}{b:Nat}{r:List RO}{K:Nx}{t:w7}{h:w6}{d:Nat} {xs:List X}{j:Nat}{u:Bool}:opsA P b (⟨some d,some (j,u),.slen,xs⟩::r) K t h=(qP (qV j t)=true∧(qx (qV j t) u=true->flags (evs t xs)∧okP (.slen) (strips (evs t xs)))∧opsA P b r K (z6 d t (.gd (qx (qV j t) u) (valP (.slen) (strips (evs t xs))))) h):=by simp only[opsA,stepO,je,R.kd,qR]
theorem qag{P:Program}{b:Nat}{r:List RO}{K:Nx}{t:w7}{h:w6}{d:Nat} {xs:List X}:opsA P b (⟨some d,none,.sidx,xs⟩::r) K t h=(flags (evs t xs)∧okP (.sidx) (strips (evs t xs))∧opsA P b r K (z6 d t (valP (.sidx) (strips (evs t xs)))) h):=by simp only[opsA,stepO,stepA,R.kd,qR]
theorem RF{P:Program}{b:Nat}{r:List RO}{K:Nx}{t:w7}{h:w6}{d n1 n2:Nat}{n3:Option Nat} {xs:List X}:opsA P b (⟨some d,none,(.aidx n1 n2 n3),xs⟩::r) K t h=(flags (evs t xs)∧okP (.aidx n1 n2 n3) (strips (evs t xs))∧opsA P b r K (z6 d t (valP (.aidx n1 n2 n3) (strips (evs t xs)))) h):=by simp only[opsA,stepO,stepA,R.kd,qR]
theorem G3{P:Program}{b:Nat}{r:List RO}{K:Nx}{t:w7}{h:w6}{d:Nat} {xs:List X}{j:Nat}{u:Bool}:opsA P b (⟨some d,some (j,u),.sidx,xs⟩::r) K t h=(qP (qV j t)=true∧(qx (qV j t) u=true->flags (evs t xs)∧okP (.sidx) (strips (evs t xs)))∧opsA P b r K (z6 d t (.gd (qx (qV j t) u) (valP (.sidx) (strips (evs t xs))))) h):=by simp only[opsA,stepO,je,R.kd,qR]
theorem GQ{P:Program}{b:Nat}{r:List RO}{K:Nx}{t:w7}{h:w6}{d n1 n2:Nat}{n3:Option Nat} {xs:List X}{j:Nat}{u:Bool}:opsA P b (⟨some d,some (j,u),(.aidx n1 n2 n3),xs⟩::r) K t h=(qP (qV j t)=true∧(qx (qV j t) u=true->flags (evs t xs)∧okP (.aidx n1 n2 n3) (strips (evs t xs)))∧opsA P b r K (z6 d t (.gd (qx (qV j t) u) (valP (.aidx n1 n2 n3) (strips (evs t xs))))) h):=by simp only[opsA,stepO,je,R.kd,qR]
theorem qai{P:Program}{b:Nat}{r:List RO}{K:Nx}{t:w7}{h:w6}{d:Nat}{lo hi:Bool}{xs:List X}:opsA P b (⟨some d,none,.sslc lo hi,xs⟩::r) K t h=(flags (evs t xs)∧okP (.sslc lo hi) (strips (evs t xs))∧opsA P b r K (z6 d t (valP (.sslc lo hi) (strips (evs t xs)))) h):=by simp only[opsA,stepO,stepA,R.kd,qR]
theorem G5{P:Program}{b:Nat}{r:List RO}{K:Nx}{t:w7}{h:w6}{d:Nat}{lo hi:Bool}{xs:List X}{j:Nat}{u:Bool}:opsA P b (⟨some d,some (j,u),.sslc lo hi,xs⟩::r) K t h=(qP (qV j t)=true∧(qx (qV j t) u=true->flags (evs t xs)∧okP (.sslc lo hi) (strips (evs t xs)))∧opsA P b r K (z6 d t (.gd (qx (qV j t) u) (valP (.sslc lo hi) (strips (evs t xs))))) h):=by simp only[opsA,stepO,je,R.kd,qR]
theorem qgj{P:Program}{b:Nat}{r:List RO}{K:Nx}{t:w7}{h:w6}{d:Nat}{m:Bool}{xs:List X}:opsA P b (⟨some d,none,.mm m,xs⟩::r) K t h=(flags (evs t xs)∧okP (.mm m) (strips (evs t xs))∧opsA P b r K (z6 d t (valP (.mm m) (strips (evs t xs)))) h):=by simp only[opsA,stepO,stepA,R.kd,qR]
theorem qd5{P:Program}{b:Nat}{r:List RO}{K:Nx}{t:w7}{h:w6}{d:Nat}{m:Bool}{xs:List X}{j:Nat}{u:Bool}:opsA P b (⟨some d,some (j,u),.mm m,xs⟩::r) K t h=(qP (qV j t)=true∧(qx (qV j t) u=true->flags (evs t xs)∧okP (.mm m) (strips (evs t xs)))∧opsA P b r K (z6 d t (.gd (qx (qV j t) u) (valP (.mm m) (strips (evs t xs))))) h):=by simp only[opsA,stepO,je,R.kd,qR]
theorem qdJ{P:Program}{b:Nat}{r:List RO}{K:Nx}{t:w7}{h:w6}{d:Nat} {xs:List X}:opsA P b (⟨some d,none,.len,xs⟩::r) K t h=(flags (evs t xs)∧okL h (.len) (strips (evs t xs))∧opsA P b r K (z6 d t (valL h (.len) (strips (evs t xs)))) h):=by simp only[opsA,stepO,stepA,R.kd,qR]
theorem qbm{P:Program}{b:Nat}{r:List RO}{K:Nx}{t:w7}{h:w6}{d:Nat} {xs:List X}{j:Nat}{u:Bool}:opsA P b (⟨some d,some (j,u),.len,xs⟩::r) K t h=(qP (qV j t)=true∧(qx (qV j t) u=true->flags (evs t xs)∧okL h (.len) (strips (evs t xs)))∧opsA P b r K (z6 d t (.gd (qx (qV j t) u) (valL h (.len) (strips (evs t xs))))) h):=by simp only[opsA,stepO,je,R.kd,qR]
theorem qaa{P:Program}{b:Nat}{r:List RO}{K:Nx}{t:w7}{h:w6}{d:Nat}{z:Nat}{xs:List X}:opsA P b (⟨some d,none,.idxA z,xs⟩::r) K t h=(flags (evs t xs)∧okL h (.idxA z) (strips (evs t xs))∧opsA P b r K (z6 d t (valL h (.idxA z) (strips (evs t xs)))) h):=by simp only[opsA,stepO,stepA,R.kd,qR]
theorem GY{P:Program}{b:Nat}{r:List RO}{K:Nx}{t:w7}{h:w6}{d:Nat}{z:Nat}{xs:List X}{j:Nat}{u:Bool}:opsA P b (⟨some d,some (j,u),.idxA z,xs⟩::r) K t h=(qP (qV j t)=true∧(qx (qV j t) u=true->flags (evs t xs)∧okL h (.idxA z) (strips (evs t xs)))∧opsA P b r K (z6 d t (.gd (qx (qV j t) u) (valL h (.idxA z) (strips (evs t xs))))) h):=by simp only[opsA,stepO,je,R.kd,qR]
theorem AG{P:Program}{b:Nat}{r:List RO}{K:Nx}{t:w7}{h:w6}{d:Nat}{m z:Nat}{xs:List X}:opsA P b (⟨some d,none,.idxArr m z,xs⟩::r) K t h=(flags (evs t xs)∧okL h (.idxArr m z) (strips (evs t xs))∧opsA P b r K (z6 d t (valL h (.idxArr m z) (strips (evs t xs)))) h):=by simp only[opsA,stepO,stepA,R.kd,qR]
theorem VG{P:Program}{b:Nat}{r:List RO}{K:Nx}{t:w7}{h:w6}{d:Nat}{m z:Nat}{xs:List X}{j:Nat}{u:Bool}:opsA P b (⟨some d,some (j,u),.idxArr m z,xs⟩::r) K t h=(qP (qV j t)=true∧(qx (qV j t) u=true->flags (evs t xs)∧okL h (.idxArr m z) (strips (evs t xs)))∧opsA P b r K (z6 d t (.gd (qx (qV j t) u) (valL h (.idxArr m z) (strips (evs t xs))))) h):=by simp only[opsA,stepO,je,R.kd,qR]
theorem RN{P:Program}{b:Nat}{r:List RO}{K:Nx}{t:w7}{h:w6}{d:Nat}{p:Nat}{xs:List X}:opsA P b (⟨some d,none,.fldA p,xs⟩::r) K t h=(flags (evs t xs)∧okL h (.fldA p) (strips (evs t xs))∧opsA P b r K (z6 d t (valL h (.fldA p) (strips (evs t xs)))) h):=by simp only[opsA,stepO,stepA,R.kd,qR]
theorem GV{P:Program}{b:Nat}{r:List RO}{K:Nx}{t:w7}{h:w6}{d:Nat}{p:Nat}{xs:List X}{j:Nat}{u:Bool}:opsA P b (⟨some d,some (j,u),.fldA p,xs⟩::r) K t h=(qP (qV j t)=true∧(qx (qV j t) u=true->flags (evs t xs)∧okL h (.fldA p) (strips (evs t xs)))∧opsA P b r K (z6 d t (.gd (qx (qV j t) u) (valL h (.fldA p) (strips (evs t xs))))) h):=by simp only[opsA,stepO,je,R.kd,qR]
theorem qac{P:Program}{b:Nat}{r:List RO}{K:Nx}{t:w7}{h:w6}{d:Nat}{n:Option Nat}{xs:List X}:opsA P b (⟨some d,none,.load n,xs⟩::r) K t h=(flags (evs t xs)∧okL h (.load n) (strips (evs t xs))∧opsA P b r K (z6 d t (valL h (.load n) (strips (evs t xs)))) h):=by simp only[opsA,stepO,stepA,R.kd,qR]
theorem G0{P:Program}{b:Nat}{r:List RO}{K:Nx}{t:w7}{h:w6}{d:Nat}{n:Option Nat}{xs:List X}{j:Nat}{u:Bool}:opsA P b (⟨some d,some (j,u),.load n,xs⟩::r) K t h=(qP (qV j t)=true∧(qx (qV j t) u=true->flags (evs t xs)∧okL h (.load n) (strips (evs t xs)))∧opsA P b r K (z6 d t (.gd (qx (qV j t) u) (valL h (.load n) (strips (evs t xs))))) h):=by simp only[opsA,stepO,je,R.kd,qR]
theorem AH{P:Program}{b:Nat}{r:List RO}{K:Nx}{t:w7}{h:w6}{d:Nat} {xs:List X}:opsA P b (⟨some d,none,.nilchk,xs⟩::r) K t h=(flags (evs t xs)∧okL h (.nilchk) (strips (evs t xs))∧opsA P b r K (z6 d t (valL h (.nilchk) (strips (evs t xs)))) h):=by simp only[opsA,stepO,stepA,R.kd,qR]
theorem VH{P:Program}{b:Nat}{r:List RO}{K:Nx}{t:w7}{h:w6}{d:Nat} {xs:List X}{j:Nat}{u:Bool}:opsA P b (⟨some d,some (j,u),.nilchk,xs⟩::r) K t h=(qP (qV j t)=true∧(qx (qV j t) u=true->flags (evs t xs)∧okL h (.nilchk) (strips (evs t xs)))∧opsA P b r K (z6 d t (.gd (qx (qV j t) u) (valL h (.nilchk) (strips (evs t xs))))) h):=by simp only[opsA,stepO,je,R.kd,qR]
theorem qdM{P:Program}{b:Nat}{r:List RO}{K:Nx}{t:w7}{h:w6}{d:Nat}{z:Nat}{lo hi:Bool}{xs:List X}:opsA P b (⟨some d,none,.slc z lo hi,xs⟩::r) K t h=(flags (evs t xs)∧okL h (.slc z lo hi) (strips (evs t xs))∧opsA P b r K (z6 d t (valL h (.slc z lo hi) (strips (evs t xs)))) h):=by simp only[opsA,stepO,stepA,R.kd,qR]
theorem qbn{P:Program}{b:Nat}{r:List RO}{K:Nx}{t:w7}{h:w6}{d:Nat}{z:Nat}{lo hi:Bool}{xs:List X}{j:Nat}{u:Bool}:opsA P b (⟨some d,some (j,u),.slc z lo hi,xs⟩::r) K t h=(qP (qV j t)=true∧(qx (qV j t) u=true->flags (evs t xs)∧okL h (.slc z lo hi) (strips (evs t xs)))∧opsA P b r K (z6 d t (.gd (qx (qV j t) u) (valL h (.slc z lo hi) (strips (evs t xs))))) h):=by simp only[opsA,stepO,je,R.kd,qR]
theorem qaf{P:Program}{b:Nat}{r:List RO}{K:Nx}{t:w7}{h:w6}{d:Nat}{c x y:X}:opsA P b (⟨some d,none,.pick,[c,x,y]⟩::r) K t h=(xA (ev t c) (ev t x) (ev t y)∧opsA P b r K (z6 d t (kr (ev t c) (ev t x) (ev t y))) h):=by simp only[opsA,stepO,stepA,R.kd,qR,evs]
theorem G2{P:Program}{b:Nat}{r:List RO}{K:Nx}{t:w7}{h:w6}{d:Nat}{c x y:X}{j:Nat}{u:Bool}:opsA P b (⟨some d,some (j,u),.pick,[c,x,y]⟩::r) K t h=(qP (qV j t)=true∧(qx (qV j t) u=true->xA (ev t c) (ev t x) (ev t y))∧opsA P b r K (z6 d t (.gd (qx (qV j t) u) (kr (ev t c) (ev t x) (ev t y)))) h):=by simp only[opsA,stepO,je,R.kd,qR,evs]
theorem qae{P:Program}{b:Nat}{r:List RO}{K:Nx}{t:w7}{h:w6}{d:Option Nat}{j z:Nat}{ty:TypeId}{xs:List X}:opsA P b (⟨d,none,.nilo j z ty,xs⟩::r) K t h=(flags (evs t xs)∧effE b h (.nilo j z ty) (strips (evs t xs)) t d (opsA P b r K)):=by simp only[opsA,stepO,stepA,R.kd]
theorem GF{P:Program}{b:Nat}{r:List RO}{K:Nx}{t:w7}{h:w6}{d:Option Nat}{j:Nat}{ty:TypeId}{z:w7}{xs:List X}:opsA P b (⟨d,none,.alloc j ty z,xs⟩::r) K t h=(flags (evs t xs)∧effE b h (.alloc j ty z) (strips (evs t xs)) t d (opsA P b r K)):=by simp only[opsA,stepO,stepA,R.kd]
theorem qdE{P:Program}{b:Nat}{r:List RO}{K:Nx}{t:w7}{h:w6}{d:Option Nat}{j:Nat}{ty:TypeId}{xs:List X}:opsA P b (⟨d,none,.box j ty,xs⟩::r) K t h=(flags (evs t xs)∧effE b h (.box j ty) (strips (evs t xs)) t d (opsA P b r K)):=by simp only[opsA,stepO,stepA,R.kd]
theorem GM{P:Program}{b:Nat}{r:List RO}{K:Nx}{t:w7}{h:w6}{d:Option Nat}{n:Nat}{xs:List X}:opsA P b (⟨d,none,.store n,xs⟩::r) K t h=(flags (evs t xs)∧effE b h (.store n) (strips (evs t xs)) t d (opsA P b r K)):=by simp only[opsA,stepO,stepA,R.kd]
theorem GL{P:Program}{b:Nat}{r:List RO}{K:Nx}{t:w7}{h:w6}{d:Option Nat}{j z m:Nat}{ty:TypeId}{zs:w7}{xs:List X}:opsA P b (⟨d,none,.mkslc j z ty zs m,xs⟩::r) K t h=(flags (evs t xs)∧effE b h (.mkslc j z ty zs m) (strips (evs t xs)) t d (opsA P b r K)):=by simp only[opsA,stepO,stepA,R.kd]
theorem RI{P:Program}{b:Nat}{r:List RO}{K:Nx}{t:w7}{h:w6}{d:Option Nat}{j z n:Nat}{ty:TypeId}{zs:w7}{ps:List (Nat×Nat)}{xs:List X}:opsA P b (⟨d,none,.bslc j z n ty zs ps,xs⟩::r) K t h=(flags (evs t xs)∧effE b h (.bslc j z n ty zs ps) (strips (evs t xs)) t d (opsA P b r K)):=by simp only[opsA,stepO,stepA,R.kd]
theorem qdB{P:Program}{b:Nat}{r:List RO}{K:Nx}{t:w7}{h:w6}{d:Option Nat}{j z m:Nat}{ty:TypeId}{xs:List X}:opsA P b (⟨d,none,.app j z ty m,xs⟩::r) K t h=(flags (evs t xs)∧effE b h (.app j z ty m) (strips (evs t xs)) t d (opsA P b r K)):=by simp only[opsA,stepO,stepA,R.kd]
theorem RG{P:Program}{b:Nat}{r:List RO}{K:Nx}{t:w7}{h:w6}{d:Option Nat}{j:Nat}{ty:TypeId}{xs:List X}:opsA P b (⟨d,none,.apps j ty,xs⟩::r) K t h=(flags (evs t xs)∧effE b h (.apps j ty) (strips (evs t xs)) t d (opsA P b r K)):=by simp only[opsA,stepO,stepA,R.kd]
theorem RJ{P:Program}{b:Nat}{r:List RO}{K:Nx}{t:w7}{h:w6}{d:Option Nat}{f:Nat}{p:Bool}{xs:List X}:opsA P b (⟨d,none,.call f p,xs⟩::r) K t h=rn P f p (evs t xs) d (opsA P b r K) t h:=by simp only[opsA,stepO,stepA,R.kd]
theorem GT{P:Program}{b:Nat}{r:List RO}{K:Nx}{t:w7}{h:w6}{d:Option Nat}{f:Nat}{p:Bool}{xs:List X}{j:Nat}{u:Bool}:opsA P b (⟨d,some (j,u),.call f p,xs⟩::r) K t h=(qP (qV j t)=true∧Qb P f p (qx (qV j t) u) (evs t xs) d (opsA P b r K) t h):=by simp only[opsA,stepO,je,R.kd]
theorem GH{P:Program}{b:Nat}{r:List RO}{K:Nx}{t:w7}{h:w6}{d:Option Nat}{xs:List X}:opsA P b (⟨d,none,.callv,xs⟩::r) K t h=(flags (evs t xs)∧yE P (strips (evs t xs)) d (opsA P b r K) t h):=by simp only[opsA,stepO,stepA,R.kd]
theorem qdK{P:Program}{b:Nat}{K:Nx}{t:w7}{h:w6}:opsA P b [] K t h=K t h:=(rfl)
theorem DZ{t:w7}:evs t []= []:=rfl
theorem WS{t:w7}{x:X}{r:List X}:evs t (x::r)=ev t x::evs t r:=rfl
theorem tf:strips []= []:=rfl
theorem xb{x:AV}{r:w7}:strips (x::r)=x.strip::strips r:=rfl
theorem Q7:flags []=True:=rfl
theorem rQ{x:AV}{r:w7}:flags (x::r)=(x.flag=true∧flags r):=rfl
theorem uB{k l:IntKind}{a c:Int}:xg .add (.int k a) (.int l c)= .int k (k.wrap (a+c)):=rfl
theorem uc{k l:IntKind}{a c:Int}:xl .add (.int k a) (.int l c)=(k=l):=rfl
theorem uO{k l:IntKind}{a c:Int}:xg .sub (.int k a) (.int l c)= .int k (k.wrap (a-c)):=rfl
theorem ur{k l:IntKind}{a c:Int}:xl .sub (.int k a) (.int l c)=(k=l):=rfl
theorem uI{k l:IntKind}{a c:Int}:xg .mul (.int k a) (.int l c)= .int k (k.wrap (a*c)):=rfl
theorem uj{k l:IntKind}{a c:Int}:xl .mul (.int k a) (.int l c)=(k=l):=rfl
theorem uK{k l:IntKind}{a c:Int}:xg .quo (.int k a) (.int l c)= .int k (k.wrap (a.tdiv c)):=rfl
theorem ul{k l:IntKind}{a c:Int}:xl .quo (.int k a) (.int l c)=(k=l∧c≠0):=rfl
theorem uL{k l:IntKind}{a c:Int}:xg .rem (.int k a) (.int l c)= .int k (a.tmod c):=rfl
theorem um{k l:IntKind}{a c:Int}:xl .rem (.int k a) (.int l c)=(k=l∧c≠0):=rfl
theorem uM{k l:IntKind}{a c:Int}:xg .shl (.int k a) (.int l c)= .int k (qf4 k a c):=rfl
theorem uo{k l:IntKind}{a c:Int}:xl .shl (.int k a) (.int l c)=(0<=c):=rfl
theorem uN{k l:IntKind}{a c:Int}:xg .shr (.int k a) (.int l c)= .int k (Hn k a c):=rfl
theorem uq{k l:IntKind}{a c:Int}:xl .shr (.int k a) (.int l c)=(0<=c):=rfl
theorem uD{k l:IntKind}{a c:Int}:xg .eql (.int k a) (.int l c)= .bool (decide (a=c)):=rfl
theorem ue{k l:IntKind}{a c:Int}:xl .eql (.int k a) (.int l c)=(k=l):=rfl
theorem uJ{k l:IntKind}{a c:Int}:xg .neq (.int k a) (.int l c)= .bool (!decide (a=c)):=rfl
theorem uk{k l:IntKind}{a c:Int}:xl .neq (.int k a) (.int l c)=(k=l):=rfl
theorem uH{k l:IntKind}{a c:Int}:xg .lss (.int k a) (.int l c)= .bool (decide (a<c)):=rfl
theorem ui{k l:IntKind}{a c:Int}:xl .lss (.int k a) (.int l c)=(k=l):=rfl
theorem uG{k l:IntKind}{a c:Int}:xg .leq (.int k a) (.int l c)= .bool (decide (a<=c)):=rfl
theorem uh{k l:IntKind}{a c:Int}:xl .leq (.int k a) (.int l c)=(k=l):=rfl
theorem uF{k l:IntKind}{a c:Int}:xg .gtr (.int k a) (.int l c)= .bool (decide (c<a)):=rfl
theorem ug{k l:IntKind}{a c:Int}:xl .gtr (.int k a) (.int l c)=(k=l):=rfl
theorem uE{k l:IntKind}{a c:Int}:xg .geq (.int k a) (.int l c)= .bool (decide (c<=a)):=rfl
theorem uf{k l:IntKind}{a c:Int}:xl .geq (.int k a) (.int l c)=(k=l):=rfl
theorem uC{k l:IntKind}{a c:Int}:xg .and (.int k a) (.int l c)= .int k (VK k a c):=rfl
theorem ud{k l:IntKind}{a c:Int}:xl .and (.int k a) (.int l c)=(k=l):=rfl
theorem V6{k l:IntKind}{a c:Int}:xg .or (.int k a) (.int l c)= .int k (orK k a c):=rfl
theorem V5{k l:IntKind}{a c:Int}:xl .or (.int k a) (.int l c)=(k=l):=rfl
theorem uP{k l:IntKind}{a c:Int}:xg .xor (.int k a) (.int l c)= .int k (qgu k a c):=rfl
theorem ut{k l:IntKind}{a c:Int}:xl .xor (.int k a) (.int l c)=(k=l):=rfl
theorem ix{k l:IntKind}{a c:Int}:xg .andNot (.int k a) (.int l c)= .int k (CH k a c):=rfl
theorem iw{k l:IntKind}{a c:Int}:xl .andNot (.int k a) (.int l c)=(k=l):=rfl
theorem uQ{s u:List UInt8}:xg .add (.str s) (.str u)= .str (s++u):=rfl
theorem uu{s u:List UInt8}:xl .add (.str s) (.str u)=(s.length+u.length<=9223372036854775807):=rfl
theorem uR{s u:List UInt8}:xg .eql (.str s) (.str u)= .bool (decide (s=u)):=rfl
theorem uv{s u:List UInt8}:xl .eql (.str s) (.str u)=True:=rfl
theorem uW{s u:List UInt8}:xg .neq (.str s) (.str u)= .bool (!decide (s=u)):=rfl
theorem uA{s u:List UInt8}:xl .neq (.str s) (.str u)=True:=rfl
theorem uV{s u:List UInt8}:xg .lss (.str s) (.str u)= .bool (Op.bytesLess s u):=rfl
theorem uz{s u:List UInt8}:xl .lss (.str s) (.str u)=True:=rfl
theorem uU{s u:List UInt8}:xg .leq (.str s) (.str u)= .bool (Op.bytesLess s u||decide (s=u)):=rfl
theorem uy{s u:List UInt8}:xl .leq (.str s) (.str u)=True:=rfl
theorem uT{s u:List UInt8}:xg .gtr (.str s) (.str u)= .bool (!(Op.bytesLess s u||decide (s=u))):=rfl
theorem ux{s u:List UInt8}:xl .gtr (.str s) (.str u)=True:=rfl
theorem uS{s u:List UInt8}:xg .geq (.str s) (.str u)= .bool (!Op.bytesLess s u):=rfl
theorem uw{s u:List UInt8}:xl .geq (.str s) (.str u)=True:=rfl
theorem Vp{n p q:Bool}:valP (.bool n) [.bool p,.bool q]= .bool (n !=(p==q)):=rfl
theorem Yd{n p q:Bool}:okP (.bool n) [.bool p,.bool q]=True:=rfl
theorem AA{p:Bool}:valP (.un .not) [.bool p]= .bool (!p):=rfl
theorem E6{p:Bool}:okP (.un .not) [.bool p]=True:=rfl
theorem Az{k:IntKind}{n:Int}:valP (.un .neg) [.int k n]= .int k (k.wrap (0-n)):=rfl
theorem E5{k:IntKind}{n:Int}:okP (.un .neg) [.int k n]=True:=rfl
theorem Vq{k l:IntKind}{n:Int}:valP (.conv k) [.int l n]= .int k (k.wrap n):=rfl
theorem Ye{k l:IntKind}{n:Int}:okP (.conv k) [.int l n]=True:=rfl
theorem dK{n:Bool}{x:AV}:valP (.isnil .ptr n) [x]= .bool (n !=(zO .ptr x).getD false):=rfl
theorem fQ{n:Bool}{x:AV}:okP (.isnil .ptr n) [x]=((zO .ptr x).isSome=true):=rfl
theorem dq{n:Bool}{x:AV}:valP (.isnil .func n) [x]= .bool (n !=(zO .func x).getD false):=rfl
theorem dE{n:Bool}{x:AV}:okP (.isnil .func n) [x]=((zO .func x).isSome=true):=rfl
theorem bA{n:Bool}{x:AV}:valP (.isnil .iface n) [x]= .bool (n !=(zO .iface x).getD false):=rfl
theorem cS{n:Bool}{x:AV}:okP (.isnil .iface n) [x]=((zO .iface x).isSome=true):=rfl
theorem kM{n:Bool}{m:Nat}{f:Nat->w7}:valP (.isnil .slice n) [.sl m f]=if m=0 then .anyb else .bool (n !=false):=rfl
theorem lr{n:Bool}{m:Nat}{f:Nat->w7}:okP (.isnil .slice n) [.sl m f]=True:=rfl
theorem gZ{n:Bool}:valP (.isnil .slice n) [.nl]= .bool (n !=true):=rfl
theorem lm{n:Bool}:okP (.isnil .slice n) [.nl]=True:=by simp[okP,zO]
theorem rz(A B:Nx)(t:w7)(h:w6):mM .anyb A B t h=(A t h∧B t h):=rfl
theorem sT:AV.strip .anyb= .anyb:=rfl
theorem QX:AV.flag .anyb=true:=rfl
theorem sF:AV.solid .anyb=true:=rfl
theorem rp:AV.cells .anyb= [.anyb]:=rfl
theorem ZN:zO .ptr .nilp=some true:=rfl
theorem rY:zO .func .nilfn=some true:=rfl
theorem rZ:zO .iface .nilif=some true:=rfl
theorem ET:zO .slice .nl=some true:=rfl
theorem ER{c:w7}:zO .ptr (.ip c)=some false:=rfl
theorem EQ{f:Fn}{a c:w7}:zO .func (.fn f a c)=some false:=rfl
theorem XR:zO .iface .ifc=some false:=rfl
theorem Av{ks:List AK}{n:Bool}{x y:w7}:valP (.aeq ks n) [.agg x,.agg y]= .bool (n !=(zS ks x y).getD false):=rfl
theorem E0{ks:List AK}{n:Bool}{x y:w7}:okP (.aeq ks n) [.agg x,.agg y]=((zS ks x y).isSome=true):=rfl
theorem Ax{p:Nat}{n:Option Nat}{c:w7}:valP (.fld p n) [.agg c]=cut c p n:=rfl
theorem E2{p:Nat}{n:Option Nat}{c:w7}:okP (.fld p n) [.agg c]=j0 c p n:=rfl
theorem Dy{p:Nat}{c:w7}:j0 c p none=(p<c.length):=rfl
theorem Dz{p n:Nat}{c:w7}:j0 c p (some n)=(p+n<=c.length):=rfl
theorem Aw{i:Nat}{c:w7}:valP (.ext i) [.tup c]=(c[i]?).getD .undef:=rfl
theorem E1{i:Nat}{c:w7}:okP (.ext i) [.tup c]=(i<c.length):=rfl
theorem tJ{z:w7}{ps:List (Nat×Nat)}{vs:w7}:valP (.build z ps) vs= .agg (xq z ps vs):=by cases vs<;>rfl
theorem ZZ{z:w7}{ps:List (Nat×Nat)}{vs:w7}:okP (.build z ps) vs=xd z.length ps vs:=by cases vs<;>rfl
theorem rI{n:Nat}:xd n [] []=True:=rfl
theorem mP{m p n:Nat}{ps:List (Nat×Nat)}{v:AV}{vs:w7}:xd m ((p,n)::ps) (v::vs)=(v.solid=true∧v.cells.length=n∧p+n<=m∧xd m ps vs):=rfl
theorem QS{z:w7}{ps:List (Nat×Nat)}:xq z ps []=z:=by cases ps<;>rfl
theorem rH{z:w7}{p n:Nat}{ps:List (Nat×Nat)}{v:AV}{vs:w7}:xq z ((p,n)::ps) (v::vs)=xq (z.take p++v.cells++z.drop (p+n)) ps vs:=rfl
theorem Vw{f:Fn}{n:Nat}{vs:w7}:valP (.mkfn f n) vs= .fn f (vs.take n) (vs.drop n):=by cases vs<;>rfl
theorem Yh{f:Fn}{n:Nat}{vs:w7}:okP (.mkfn f n) vs=(n<=vs.length):=by cases vs<;>rfl
theorem Vx{s:List UInt8}{k:IntKind}{i:Int}:valP .sidx [.str s,.int k i]= .int .u8 ((s[i.toNat]?).getD 0).toNat:=rfl
theorem Vo{cs:w7}{k:IntKind}{i:Int}{n1 n2:Nat}{n3:Option Nat}:valP (.aidx n1 n2 n3) [.agg cs,.int k i]=cut cs (i.toNat*n2) n3:=rfl
theorem Yc{cs:w7}{k:IntKind}{i:Int}{n1 n2:Nat}{n3:Option Nat}:okP (.aidx n1 n2 n3) [.agg cs,.int k i]=((0<=i∧i<n1)∧j0 cs (i.toNat*n2) n3):=rfl
theorem Yi{s:List UInt8}{k:IntKind}{i:Int}:okP .sidx [.str s,.int k i]=(0<=i∧i<s.length):=rfl
theorem tM{s:List UInt8}{k m:IntKind}{a c:Int}:valP (.sslc true true) [.str s,.int k a,.int m c]= .str ((s.drop (a:Int).toNat).take ((c:Int).toNat-(a:Int).toNat)):=by simp[valP,loB,hiB]
theorem Z1{s:List UInt8}{k m:IntKind}{a c:Int}:okP (.sslc true true) [.str s,.int k a,.int m c]=(0<=(a:Int)∧(a:Int)<=c∧c<=(s.length:Int)):=by simp[okP,loB,hiB,xt]
theorem tI{g:w6}{z n:Nat}{f:Nat->w7}{k m:IntKind}{a c:Int}:valL g (.slc z true true) [.sl n f,.int k a,.int m c]= .sl ((c:Int).toNat-(a:Int).toNat) (λi=>f ((a:Int).toNat+i)):=by simp[valL,loB,hiB]
theorem ZY{g:w6}{z n:Nat}{f:Nat->w7}{k m:IntKind}{a c:Int}:okL g (.slc z true true) [.sl n f,.int k a,.int m c]=((0<=(a:Int)∧(a:Int)<=c∧c<=(n:Int))∧(0<n->(f 0).length=z)):=by simp[okL,loB,hiB,xt,and_assoc]
theorem tG{g:w6}{z w v y p n:Nat}{k m:IntKind}{a c:Int}:valL g (.slc z true true) [.osl w v y p n,.int k a,.int m c]= .osl w v y (p+(a:Int).toNat*y) ((c:Int).toNat-(a:Int).toNat):=by simp[valL,loB,hiB]
theorem ZX{g:w6}{z w v y p n:Nat}{k m:IntKind}{a c:Int}:okL g (.slc z true true) [.osl w v y p n,.int k a,.int m c]=((0<=(a:Int)∧(a:Int)<=c∧c<=(n:Int))∧y=z∧qI g w v=true∧((a:Int)=0∨(a:Int)<n)):=by simp[okL,loB,hiB,xt,and_assoc]
theorem VA{s:List UInt8}{k:IntKind}{a:Int}:valP (.sslc true false) [.str s,.int k a]= .str ((s.drop (a:Int).toNat).take (((s.length:Int):Int).toNat-(a:Int).toNat)):=by simp[valP,loB,hiB]
theorem Yl{s:List UInt8}{k:IntKind}{a:Int}:okP (.sslc true false) [.str s,.int k a]=(0<=(a:Int)∧(a:Int)<=(s.length:Int)∧(s.length:Int)<=(s.length:Int)):=by simp[okP,loB,hiB,xt]
theorem Vn{g:w6}{z n:Nat}{f:Nat->w7}{k:IntKind}{a:Int}:valL g (.slc z true false) [.sl n f,.int k a]= .sl (((n:Int):Int).toNat-(a:Int).toNat) (λi=>f ((a:Int).toNat+i)):=by simp[valL,loB,hiB]
theorem Yb{g:w6}{z n:Nat}{f:Nat->w7}{k:IntKind}{a:Int}:okL g (.slc z true false) [.sl n f,.int k a]=((0<=(a:Int)∧(a:Int)<=(n:Int)∧(n:Int)<=(n:Int))∧(0<n->(f 0).length=z)):=by simp[okL,loB,hiB,xt,and_assoc]
theorem Vl{g:w6}{z w v y p n:Nat}{k:IntKind}{a:Int}:valL g (.slc z true false) [.osl w v y p n,.int k a]= .osl w v y (p+(a:Int).toNat*y) (((n:Int):Int).toNat-(a:Int).toNat):=by simp[valL,loB,hiB]
theorem X9{g:w6}{z w v y p n:Nat}{k:IntKind}{a:Int}:okL g (.slc z true false) [.osl w v y p n,.int k a]=((0<=(a:Int)∧(a:Int)<=(n:Int)∧(n:Int)<=(n:Int))∧y=z∧qI g w v=true∧((a:Int)=0∨(a:Int)<n)):=by simp[okL,loB,hiB,xt,and_assoc]
theorem Vz{s:List UInt8}{k:IntKind}{c:Int}:valP (.sslc false true) [.str s,.int k c]= .str ((s.drop (0:Int).toNat).take ((c:Int).toNat-(0:Int).toNat)):=by simp[valP,loB,hiB]
theorem Yk{s:List UInt8}{k:IntKind}{c:Int}:okP (.sslc false true) [.str s,.int k c]=(0<=(0:Int)∧(0:Int)<=c∧c<=(s.length:Int)):=by simp[okP,loB,hiB,xt]
theorem Vm{g:w6}{z n:Nat}{f:Nat->w7}{k:IntKind}{c:Int}:valL g (.slc z false true) [.sl n f,.int k c]= .sl ((c:Int).toNat-(0:Int).toNat) (λi=>f ((0:Int).toNat+i)):=by simp[valL,loB,hiB]
theorem Ya{g:w6}{z n:Nat}{f:Nat->w7}{k:IntKind}{c:Int}:okL g (.slc z false true) [.sl n f,.int k c]=((0<=(0:Int)∧(0:Int)<=c∧c<=(n:Int))∧(0<n->(f 0).length=z)):=by simp[okL,loB,hiB,xt,and_assoc]
theorem Vk{g:w6}{z w v y p n:Nat}{k:IntKind}{c:Int}:valL g (.slc z false true) [.osl w v y p n,.int k c]= .osl w v y (p+(0:Int).toNat*y) ((c:Int).toNat-(0:Int).toNat):=by simp[valL,loB,hiB]
theorem X8{g:w6}{z w v y p n:Nat}{k:IntKind}{c:Int}:okL g (.slc z false true) [.osl w v y p n,.int k c]=((0<=(0:Int)∧(0:Int)<=c∧c<=(n:Int))∧y=z∧qI g w v=true∧((0:Int)=0∨(0:Int)<n)):=by simp[okL,loB,hiB,xt,and_assoc]
theorem AB{s:List UInt8}  :valP (.sslc false false) [.str s]= .str ((s.drop (0:Int).toNat).take (((s.length:Int):Int).toNat-(0:Int).toNat)):=by simp[valP,loB,hiB]
theorem E7{s:List UInt8}  :okP (.sslc false false) [.str s]=(0<=(0:Int)∧(0:Int)<=(s.length:Int)∧(s.length:Int)<=(s.length:Int)):=by simp[okP,loB,hiB,xt]
theorem Au{g:w6}{z n:Nat}{f:Nat->w7}  :valL g (.slc z false false) [.sl n f]= .sl (((n:Int):Int).toNat-(0:Int).toNat) (λi=>f ((0:Int).toNat+i)):=by simp[valL,loB,hiB]
theorem EZ{g:w6}{z n:Nat}{f:Nat->w7}  :okL g (.slc z false false) [.sl n f]=((0<=(0:Int)∧(0:Int)<=(n:Int)∧(n:Int)<=(n:Int))∧(0<n->(f 0).length=z)):=by simp[okL,loB,hiB,xt,and_assoc]
theorem As{g:w6}{z w v y p n:Nat}  :valL g (.slc z false false) [.osl w v y p n]= .osl w v y (p+(0:Int).toNat*y) (((n:Int):Int).toNat-(0:Int).toNat):=by simp[valL,loB,hiB]
theorem EX{g:w6}{z w v y p n:Nat}  :okL g (.slc z false false) [.osl w v y p n]=((0<=(0:Int)∧(0:Int)<=(n:Int)∧(n:Int)<=(n:Int))∧y=z∧qI g w v=true∧((0:Int)=0∨(0:Int)<n)):=by simp[okL,loB,hiB,xt,and_assoc]
theorem Vs{k l:IntKind}{a c:Int}:valP (.mm true) [.int k a,.int l c]= .int k (max a c):=rfl
theorem Vu{k l:IntKind}{a c:Int}:valP (.mm false) [.int k a,.int l c]= .int k (min a c):=rfl
theorem Vt{k l m:IntKind}{a c e:Int}:valP (.mm true) [.int k a,.int l c,.int m e]= .int k (max (max a c) e):=rfl
theorem Vv{k l m:IntKind}{a c e:Int}:valP (.mm false) [.int k a,.int l c,.int m e]= .int k (min (min a c) e):=rfl
theorem E3{x:Bool}{k l:IntKind}{a c:Int}:okP (.mm x) [.int k a,.int l c]=True:=by simp[okP,xt]
theorem E4{x:Bool}{k l m:IntKind}{a c e:Int}:okP (.mm x) [.int k a,.int l c,.int m e]=True:=by simp[okP,xt]
theorem tD{g:w6}{n:Nat}{f:Nat->w7}:valL g .len [.sl n f]= .int .i64 n:=rfl
theorem ZW{g:w6}{n:Nat}{f:Nat->w7}:okL g .len [.sl n f]=True:=rfl
theorem tC{g:w6}:valL g .len [.nl]= .int .i64 0:=rfl
theorem ZV{g:w6}:okL g .len [.nl]=True:=rfl
theorem Vy{s:List UInt8}:valP .slen [.str s]= .int .i64 s.length:=rfl
theorem Yj{s:List UInt8}:okP .slen [.str s]=True:=rfl
theorem n7{g:w6}{k v z p n:Nat}:valL g .len [.osl k v z p n]= .int .i64 n:=rfl
theorem sh{g:w6}{k v z p n:Nat}:okL g .len [.osl k v z p n]=(qI g k v=true):=rfl
theorem tz{g:w6}{z n:Nat}{f:Nat->w7}{k:IntKind}{i:Int}:valL g (.idxA z) [.sl n f,.int k i]= .ip (f i.toNat):=rfl
theorem ZT{g:w6}{z n:Nat}{f:Nat->w7}{k:IntKind}{i:Int}:okL g (.idxA z) [.sl n f,.int k i]=((0<=i∧i<n)∧(f i.toNat).length=z):=rfl
theorem n6{g:w6}{z q v y p n:Nat}{k:IntKind}{i:Int}:valL g (.idxA z) [.osl q v y p n,.int k i]= .op q v (p+i.toNat*y):=rfl
theorem sf{g:w6}{z q v y p n:Nat}{k:IntKind}{i:Int}:okL g (.idxA z) [.osl q v y p n,.int k i]=((0<=i∧i<n)∧y=z∧(cellsOf g q v).isSome=true):=rfl
theorem tj{g:w6}{m z:Nat}{c:w7}{k:IntKind}{i:Int}:valL g (.idxArr m z) [.ip c,.int k i]= .ip ((c.drop (i.toNat*z)).take z):=rfl
theorem ZO{g:w6}{m z:Nat}{c:w7}{k:IntKind}{i:Int}:okL g (.idxArr m z) [.ip c,.int k i]=((0<=i∧i<m)∧c.length=m*z):=rfl
theorem tq{g:w6}{m z q v p:Nat}{k:IntKind}{i:Int}:valL g (.idxArr m z) [.op q v p,.int k i]= .op q v (p+i.toNat*z):=rfl
theorem ZP{g:w6}{m z q v p:Nat}{k:IntKind}{i:Int}:okL g (.idxArr m z) [.op q v p,.int k i]=((0<=i∧i<m)∧(cellsOf g q v).isSome=true):=rfl
theorem tr{g:w6}{p:Nat}{c:w7}:valL g (.fldA p) [.ip c]= .ip (c.drop p):=rfl
theorem ZR{g:w6}{p:Nat}{c:w7}:okL g (.fldA p) [.ip c]=(p<c.length):=rfl
theorem tu{g:w6}{p q v o:Nat}:valL g (.fldA p) [.op q v o]= .op q v (o+p):=rfl
theorem ZS{g:w6}{p q v o:Nat}:okL g (.fldA p) [.op q v o]=((cellsOf g q v).isSome=true):=rfl
theorem Vf{g:w6}{n:Option Nat}{c:w7}:valL g (.load n) [.ip c]=cut c 0 n:=rfl
theorem XW{g:w6}{n:Option Nat}{c:w7}:okL g (.load n) [.ip c]=j0 c 0 n:=rfl
theorem Vg{g:w6}{n:Option Nat}{q v p:Nat}:valL g (.load n) [.op q v p]=cut ((cellsOf g q v).getD []) p n:=rfl
theorem XX{g:w6}{n:Option Nat}{q v p:Nat}:okL g (.load n) [.op q v p]=((cellsOf g q v).isSome=true∧j0 ((cellsOf g q v).getD []) p n):=rfl
theorem Vi{g:w6}{c:w7}:valL g .nilchk [.ip c]= .ip c:=rfl
theorem X6{g:w6}{c:w7}:okL g .nilchk [.ip c]=True:=rfl
theorem Vj{g:w6}{q v p:Nat}:valL g .nilchk [.op q v p]= .op q v p:=rfl
theorem X7{g:w6}{q v p:Nat}:okL g .nilchk [.op q v p]=((cellsOf g q v).isSome=true):=rfl
theorem Vh{g:w6}{f:Fn}{a c:w7}:valL g .nilchk [.fn f a c]= .fn f a c:=rfl
theorem XY{g:w6}{f:Nat}{a c:w7}:okL g .nilchk [.fn (.func f) a c]=True:=rfl
theorem WG{c:w7}{p:Nat}:cut c p none=(c[p]?).getD .undef:=rfl
theorem WH{c:w7}{p n:Nat}:cut c p (some n)= .agg ((c.drop p).take n):=rfl
theorem Xx{b w:Bool}:qx (.bool b) w=(b==w):=rfl
theorem Zq{g b w:Bool}:qx (.gd g (.bool b)) w=(g&&(b==w)):=rfl
theorem Zr{b:Bool}:qP (.bool b)=true:=rfl
theorem rS{g b:Bool}:qP (.gd g (.bool b))=true:=rfl
theorem Yp{c:Bool}{x y:AV}:xA (.bool c) x y=((c=true->x.flag=true)∧(c=false->y.flag=true)):=rfl
theorem Jc{g c:Bool}{x y:AV}:xA (.gd g (.bool c)) x y=(g=true∧(c=true->x.flag=true)∧(c=false->y.flag=true)):=rfl
theorem Jd{c p q:Bool}:kr (.bool c) (.bool p) (.bool q)= .bool ((c&&p)||(!c&&q)):=rfl
theorem Jj{c p q gc:Bool}:kr (.gd gc (.bool c)) (.bool p) (.bool q)= .bool ((c&&p)||(!c&&q)):=rfl
theorem Je{c p q gq:Bool}:kr (.bool c) (.bool p) (.gd gq (.bool q))= .bool ((c&&p)||(!c&&q)):=rfl
theorem Jk{c p q gq gc:Bool}:kr (.gd gc (.bool c)) (.bool p) (.gd gq (.bool q))= .bool ((c&&p)||(!c&&q)):=rfl
theorem Jf{c p q gp:Bool}:kr (.bool c) (.gd gp (.bool p)) (.bool q)= .bool ((c&&p)||(!c&&q)):=rfl
theorem Jl{c p q gp gc:Bool}:kr (.gd gc (.bool c)) (.gd gp (.bool p)) (.bool q)= .bool ((c&&p)||(!c&&q)):=rfl
theorem Jg{c p q gp gq:Bool}:kr (.bool c) (.gd gp (.bool p)) (.gd gq (.bool q))= .bool ((c&&p)||(!c&&q)):=rfl
theorem Jm{c p q gp gq gc:Bool}:kr (.gd gc (.bool c)) (.gd gp (.bool p)) (.gd gq (.bool q))= .bool ((c&&p)||(!c&&q)):=rfl
theorem Ln{P:Program}{b:Nat}{Q:Ex->Nx}{t:w7}{h:w6}:zy P b .skip Q t h=Q .normal t h:=(rfl)
theorem qb2{P:Program}{b:Nat}{Q:Ex->Nx}{t:w7}{h:w6}{l:List RO}:zy P b (.ops l) Q t h=opsA P b l (Q .normal) t h:=(rfl)
theorem qb4{P:Program}{b:Nat}{Q:Ex->Nx}{t:w7}{h:w6}{x y:C}:zy P b (.seq x y) Q t h=zy P b x (Ex.andThen (zy P b y Q) Q) t h:=(rfl)
theorem Ll{P:Program}{b:Nat}{Q:Ex->Nx}{t:w7}{h:w6}{c:X}{x y:C}:zy P b (.cond c x y) Q t h=mM (ev t c) (zy P b x Q) (zy P b y Q) t h:=(rfl)
theorem Dl{P:Program}{b:Nat}{Q:Ex->Nx}{t:w7}{h:w6}{i:Nat}{x:C}:zy P b (.block i x) Q t h=zy P b x (Ex.inBlock i Q) t h:=(rfl)
theorem Lm{P:Program}{b:Nat}{Q:Ex->Nx}{t:w7}{h:w6}{i:Nat}:zy P b (.exit i) Q t h=Q (.exit i) t h:=(rfl)
theorem qb3{P:Program}{b:Nat}{Q:Ex->Nx}{t:w7}{h:w6}:zy P b .ret Q t h=Q .ret t h:=(rfl)
theorem qe7{K:Nx}{Q:Ex->Nx}{t:w7}{h:w6}:Ex.andThen K Q .normal t h=K t h:=(rfl)
theorem qe6{K:Nx}{Q:Ex->Nx}{t:w7}{h:w6}{i:Nat}:Ex.andThen K Q (.exit i) t h=Q (.exit i) t h:=(rfl)
theorem qe8{K:Nx}{Q:Ex->Nx}{t:w7}{h:w6}:Ex.andThen K Q .ret t h=Q .ret t h:=(rfl)
theorem qfy{i:Nat}{Q:Ex->Nx}{t:w7}{h:w6}:Ex.inBlock i Q .normal t h=Q .normal t h:=(rfl)
theorem qfz{i:Nat}{Q:Ex->Nx}{t:w7}{h:w6}:Ex.inBlock i Q .ret t h=Q .ret t h:=(rfl)
theorem qfx{i j:Nat}{Q:Ex->Nx}{t:w7}{h:w6}:Ex.inBlock i Q (.exit j) t h=if j=i then Q .normal t h else Q (.exit j) t h:=(rfl)
end AF
end
section
namespace AF
open Go
attribute [go_sem] RF GQ Vo Yc Ou PW Ov PX Ox PY Oy PZ Oz P0 OA P3 OD P4 OE P5 Ek F5 Xv YS qfp qfo sU QY sG rq KG W2 Ko Qm KL W6 Ks Qq Ag D8 Y3 Wx KI W4 Kq Qo KE WY J8 KN W7 Qr Ad D5 Y0 Wu Af D7 Y2 Ww sY Q3 sJ rx Ae D6 Y1 Wv Ab D3 YZ Ws KO W8 Kt Qs nQ rL nG mJ KF WZ J9 Ql nR rM nH mK nU rP Qk Ac D4 qgk qd6 qdD qbj RH GR qgl qd7 RL GU GI AM qdA qbh qdH qbl qdG qbk GG AI qad G1 qah G4 qag G3 qai G5 qgj qd5 qdJ qbm qaa GY AG VG RN GV qac G0 AH VH qdM qbn qaf G2 qae GF qdE GM GL RI qdB RG RJ GT GH qdK DZ WS tf xb Q7 rQ uB uc uO ur uI uj uK ul uL um uM uo uN uq uD ue uJ uk uH ui uG uh uF ug uE uf uC ud V6 V5 uP ut ix iw uQ uu uR uv uW uA uV uz uU uy uT ux uS uw Vp Yd AA E6 Az E5 Vq Ye dK fQ dq dE bA cS kM lr gZ lm rz sT QX sF rp ZN rY rZ ET ER EQ XR Av E0 Ax E2 Dy Dz Aw E1 tJ ZZ rI mP QS rH Vw Yh Vx Yi tM Z1 tI ZY tG ZX VA Yl Vn Yb Vl X9 Vz Yk Vm Ya Vk X8 AB E7 Au EZ As EX Vs Vu Vt Vv E3 E4 tD ZW tC ZV Vy Yj n7 sh tz ZT n6 sf tj ZO tq ZP tr ZR tu ZS Vf XW Vg XX Vi X6 Vj X7 Vh XY WG WH Xx Zq Zr rS Yp Jc Jd Jj Je Jk Jf Jl Jg Jm Ln qb2 qb4 Ll Dl Lm qb3 qe7 qe6 qe8 qfy qfz qfx
attribute [go_sem] and_true true_and List.drop_zero List.drop_succ_cons List.getElem?_cons_zero List.getElem?_cons_succ Option.getD_some List.length_cons List.length_nil Int.toNat_natCast beq_true imp_self and_self implies_true Bool.and_true Bool.and_false Bool.or_false decide_eq_true_eq Bool.and_eq_true
theorem JP(t:w7)(h:w6):kX t h []=True:=rfl
theorem JQ(n:Nat)(l:List RV)(t:w7)(h:w6):kX t h (.tmp n::l)=kX t h l:=by simp[kX,RV.ok]
theorem sy(t:w7)(h:w6):jv t h []= []:=rfl
theorem sC(n:Nat)(l:List RV)(t:w7)(h:w6):jv t h (.tmp n::l)=qV n t::jv t h l:=rfl
theorem YI(v:AV):nk [v]=v:=rfl
theorem YJ(v u:AV)(l:w7):nk (v::u::l)= .tup (v::u::l):=rfl
theorem rA(c:Bool)(A B:Nx)(t:w7)(h:w6):mM (.bool c) A B t h=((c=true->A t h)∧(c=false->B t h)):=rfl
theorem qt{n:Int}(h0: -9223372036854775808<=n)(h1:n<=9223372036854775807):IntKind.i64.wrap n=n:=by
 have e1:(2:Int)^IntKind.bits IntKind.i64=18446744073709551616:=rfl;have e2:(2:Int)^(IntKind.bits IntKind.i64-1)=9223372036854775808:=rfl;have e3:IntKind.signed IntKind.i64=true:=rfl;unfold IntKind.wrap;rw[e1,e2,e3];simp only[Bool.true_and,decide_eq_true_eq];split<;>omega
theorem fD{rs:List RV}{h0:w6}{K:AV->w6->Prop}{t:w7}{hh tl:w6}{r:AV}(e:hh=h0++tl)(hok:kX t hh rs)(hK:K r h0)(hv:VLe (frz (λk=>decide (h0.length<=k)) hh 8 (nk (jv t hh rs))) r):
  fnQ rs h0 K .ret t hh:=by subst e;exact Xk hok hK hv
theorem qp{P:Program}{b:Nat}{x:C}{Q:Ex->Nx}{ι:Type}{t:w7}{h:w6}(T:ι->w7)(H:ι->w6)(inv:ι->Prop)(m:ι->Nat)(i0:ι)(h0:inv i0)(hw:Wk t h (T i0) (H i0))
  (round: ∀i,inv i-> ∀K:Nx,(∀t' h' j,inv j->m j<m i->Wk t' h' (T j) (H j)->K t' h')->zy P b x (Ex.andThen K Q) (T i) (H i)):zy P b (.loop x) Q t h:=by
 refine⟨λn t h=> ∃i,inv i∧m i=n∧t=T i∧h=H i,⟨m i0,T i0,H i0,hw,i0,h0,rfl,rfl,rfl⟩,?_⟩;rintro n t' h' ⟨i,hi,rfl,rfl,rfl⟩;exact round i hi _ (λt'' h'' j hj hlt hw=>⟨m j,T j,H j,hlt,hw,j,hj,rfl,rfl,rfl⟩)
def zw(n:Nat)(l:List (Nat×AV)):w7:=l.foldl (λt p=>z6 p.1 t p.2) (List.replicate n .undef)
theorem yv.nil:yv [] []:=trivial
theorem qa(a:AV):VLe a .undef=True:=by simp[VLe.undef]
theorem qf(a:AV):VLe a a=True:=by simp[VLe.refl]
theorem qe{k:IntKind}{a b:Int}(h:a=b):VLe (.int k a) (.int k b):=h▸VLe.refl _
theorem qg:yv [] []=True:=rfl
theorem qc{a b:AV}{l m:w7}:yv (a::l) (b::m)=(VLe a b∧yv l m):=rfl
theorem qh{rs:List RV}{h:w6}{t:w7}{r:AV}(hok:kX t h rs)(hv:VLe (frz (λk=>decide (h.length<=k)) h 8 (nk (jv t h rs))) r):fnQ rs h (λr1 h1=>r1=r∧h1=h) .ret t h:=
 fD (tl:= []) (by simp) hok ⟨rfl,rfl⟩ hv
theorem qb{rs:List RV}{h tl:w6}{t:w7}{r:AV}(hok:kX t (h++tl) rs)(hv:VLe (frz (λk=>decide (h.length<=k)) (h++tl) 8 (nk (jv t (h++tl) rs))) r):fnQ rs h (λr1 h1=>r1=r∧h1=h) .ret t (h++tl):=
 fD rfl hok ⟨rfl,rfl⟩ hv
section
variable {fz : Nat -> Bool} {h : w6} {n : Nat}
theorem frz_int{k:IntKind}{a:Int}:frz fz h (n+1) (.int k a)= .int k a:=rfl
theorem frz_bool{a:Bool}:frz fz h (n+1) (.bool a)= .bool a:=rfl
theorem frz_str{a:List UInt8}:frz fz h (n+1) (.str a)= .str a:=rfl
theorem frz_sl{m:Nat}{f:Nat->w7}:frz fz h (n+1) (.sl m f)= .sl m f:=rfl
theorem frz_nl:frz fz h (n+1) .nl= .nl:=rfl
theorem frz_nilp:frz fz h (n+1) .nilp= .nilp:=rfl
theorem frz_nilfn:frz fz h (n+1) .nilfn= .nilfn:=rfl
theorem frz_ifc:frz fz h (n+1) .ifc= .ifc:=rfl
theorem frz_nilif:frz fz h (n+1) .nilif= .nilif:=rfl
theorem frz_undef:frz fz h (n+1) .undef= .undef:=rfl
theorem frz_ip{cs:w7}:frz fz h (n+1) (.ip cs)= .ip cs:=rfl
theorem frz_agg{cs:w7}:frz fz h (n+1) (.agg cs)= .agg (cs.map (frz fz h n)):=rfl
theorem frz_tup{cs:w7}:frz fz h (n+1) (.tup cs)= .tup (cs.map (frz fz h n)):=rfl
theorem frz_fn{f:Fn}{a b:w7}:frz fz h (n+1) (.fn f a b)= .fn f (a.map (frz fz h n)) (b.map (frz fz h n)):=rfl
theorem frz_gd{g:Bool}{v:AV}:frz fz h (n+1) (.gd g v)= .gd g (frz fz h n v):=rfl
end
attribute [go_sem] frz_int frz_bool frz_str frz_sl frz_nl frz_nilp frz_nilfn frz_ifc frz_nilif frz_undef frz_ip frz_agg frz_tup frz_fn frz_gd if_true if_false List.map_cons List.map_nil
attribute [go_sem] rA JP JQ sy sC YI YJ
end AF
end
section
namespace AF
open Go
section
variable {h : w6} {l : w6} {n k v : Nat} {o : AObj} {ty : TypeId} {cs : w7}
theorem getO_app0:qv h.length (h++l)=l[0]? :=by unfold qv;rw[List.getElem?_append_right (Nat.le_refl _),Nat.sub_self]
theorem getO_app:qv (h.length+n) (h++l)=l[n]? :=by unfold qv;rw[List.getElem?_append_right (by omega),Nat.add_sub_cancel_left]
theorem setO_app0:qu h.length (h++l) o=h++l.set 0 o:=by unfold qu;rw[List.set_append_right _ _ (Nat.le_refl _),Nat.sub_self]
theorem setO_app:qu (h.length+n) (h++l) o=h++l.set n o:=by unfold qu;rw[List.set_append_right _ _ (by omega),Nat.add_sub_cancel_left]
theorem verOf_mem:qn (some (.mem v ty cs))=v:=rfl
theorem verOf_emp:qn (some (.emp v))=v:=rfl
theorem tyOf_mem:KW (some (.mem v ty cs))=ty:=rfl
theorem site_app:qK (h++l) (h.length+n)=qK l n:=by unfold qK;rw[getO_app];rfl
theorem site_app0:qK (h++l) h.length=qK l 0:=by unfold qK;rw[getO_app0];rfl
theorem site_0_mem{v:Nat}:qK (.mem v ty cs::l) 0=true:=rfl
theorem site_0_emp{v:Nat}:qK (.emp v::l) 0=true:=rfl
theorem site_s:qK (o::l) (n+1)=qK l n:=rfl
theorem cellsOf_app:cellsOf (h++l) (h.length+n) v=cellsOf l n v:=by unfold cellsOf;rw[getO_app];rfl
theorem cellsOf_app0:cellsOf (h++l) h.length v=cellsOf l 0 v:=by unfold cellsOf;rw[getO_app0];rfl
theorem cellsOf_0{w:Nat}:cellsOf (.mem w ty cs::l) 0 v=if w=v then some cs else none:=rfl
theorem cellsOf_s:cellsOf (o::l) (n+1) v=cellsOf l n v:=rfl
theorem liveS_app:qI (h++l) (h.length+n) v=qI l n v:=by unfold qI;rw[getO_app];rfl
theorem liveS_app0:qI (h++l) h.length v=qI l 0 v:=by unfold qI;rw[getO_app0];rfl
theorem liveS_0_mem{w:Nat}:qI (.mem w ty cs::l) 0 v=(w==v):=rfl
theorem liveS_0_emp{w:Nat}:qI (.emp w::l) 0 v=(w==v):=rfl
theorem liveS_s:qI (o::l) (n+1) v=qI l n v:=rfl
theorem tyOk_mem{t:TypeId}:tU (some (.mem v t cs)) ty=(t==ty):=rfl
theorem tyOk_emp:tU (some (.emp v)) ty=true:=rfl
theorem b_add0{b:Nat}:b+0=b:=rfl
theorem appO_mem{t:TypeId}{ds:w7}{c m:Nat}:oh (some (.mem k t ds)) ty v c m cs= .mem (v+1) ty (ds.take c++cs):=rfl
theorem appO_emp{c m:Nat}:oh (some (.emp k)) ty v c m cs=if m=0 then .emp (v+1) else .mem (v+1) ty cs:=rfl
end
section
variable {b : Nat} {h : w6} {t : w7} {d : Option Nat} {nx : w7 -> w6 -> Prop}
theorem LF{j sz:Nat}{ty:TypeId}:effE b h (.nilo j sz ty) [] t d nx=(qK h (b+j)=true∧nx (qR t d (.osl (b+j) (qn (qv (b+j) h)+1) sz 0 0)) (qu (b+j) h (.emp (qn (qv (b+j) h)+1)))):=(rfl)
theorem DK{j:Nat}{ty:TypeId}{z:w7}:effE b h (.alloc j ty z) [] t d nx=(qK h (b+j)=true∧nx (qR t d (.op (b+j) (qn (qv (b+j) h)+1) 0)) (qu (b+j) h (.mem (qn (qv (b+j) h)+1) ty z))):=(rfl)
theorem qci{j:Nat}{ty:TypeId}{v:AV}:effE b h (.box j ty) [v] t d nx=((qK h (b+j)=true∧v.solid=true)∧nx (qR t d (.op (b+j) (qn (qv (b+j) h)+1) 0)) (qu (b+j) h (.mem (qn (qv (b+j) h)+1) ty v.cells))):=(rfl)
theorem DO{n k ver off:Nat}{v:AV}:effE b h (.store n) [.op k ver off,v] t d nx=(((cellsOf h k ver).isSome=true∧v.solid=true∧v.cells.length=n∧off+n<=((cellsOf h k ver).getD []).length)∧
  nx (qR t d (.tup [])) (qu k h (.mem ver (KW (qv k h)) (((cellsOf h k ver).getD []).take off++v.cells++((cellsOf h k ver).getD []).drop (off+n))))):=(rfl)
theorem DN{j sz:Nat}{ty:TypeId}{z:w7}{bytes:Nat}{l c:Int}:effE b h (.mkslc j sz ty z bytes) [.int .i64 l,.int .i64 c] t d nx=((qK h (b+j)=true∧z.length=sz∧0<=l∧l=c∧c*(bytes:Int)<=140737488355328∧c<=140737488355328)∧
   nx (qR t d (.osl (b+j) (qn (qv (b+j) h)+1) sz 0 l.toNat)) (qu (b+j) h (.mem (qn (qv (b+j) h)+1) ty (zU z l.toNat)))):=(rfl)
theorem LC{j sz n:Nat}{ty:TypeId}{z:w7}{ps:List (Nat×Nat)}{vs:w7}:effE b h (.bslc j sz n ty z ps) vs t d nx=((qK h (b+j)=true∧z.length=sz∧xd (n*sz) ps vs∧n<=140737488355328)∧
   nx (qR t d (.osl (b+j) (qn (qv (b+j) h)+1) sz 0 n)) (qu (b+j) h (.mem (qn (qv (b+j) h)+1) ty (xq (zU z n) ps vs)))):=by
 cases vs<;>rfl
theorem DL{j sz:Nat}{ty:TypeId}{bytes:Nat}{y:AV}:effE b h (.app j sz ty bytes) [.nl,y] t d nx=(((qk h y).isSome=true∧qK h (b+j)=true∧((qk h y).getD (0,[])).2.length=((qk h y).getD (0,[])).1*sz∧
    (((qk h y).getD (0,[])).1:Int)*bytes<=140737488355328∧(((qk h y).getD (0,[])).1:Int)<=140737488355328)∧
   nx (qR t d (.osl (b+j) (qn (qv (b+j) h)+1) sz 0 ((qk h y).getD (0,[])).1))
    (qu (b+j) h (if ((qk h y).getD (0,[])).1=0 then .emp (qn (qv (b+j) h)+1) else .mem (qn (qv (b+j) h)+1) ty ((qk h y).getD (0,[])).2))):=(rfl)
theorem qch{j sz:Nat}{ty:TypeId}{bytes k ver sz' off m:Nat}{y:AV}:effE b h (.app j sz ty bytes) [.osl k ver sz' off m,y] t d nx=(((qk h y).isSome=true∧qI h k ver=true∧tU (qv k h) ty=true∧m*sz<=((cellsOf h k ver).getD []).length∧yy (.osl k ver sz' off m) y=true∧sz'=sz∧off=0∧
    ((qk h y).getD (0,[])).2.length=((qk h y).getD (0,[])).1*sz∧
    ((m+((qk h y).getD (0,[])).1:Nat):Int)*bytes<=140737488355328∧((m+((qk h y).getD (0,[])).1:Nat):Int)<=140737488355328)∧
   nx (qR t d (.osl k (ver+1) sz 0 (m+((qk h y).getD (0,[])).1)))
    (qu k h (oh (qv k h) ty ver (m*sz) ((qk h y).getD (0,[])).1 ((qk h y).getD (0,[])).2))):=(rfl)
theorem WO{j:Nat}{ty:TypeId}{s:List UInt8}:effE b h (.apps j ty) [.nl,.str s] t d nx=((qK h (b+j)=true∧(s.length:Int)<=140737488355328)∧
   nx (qR t d (.osl (b+j) (qn (qv (b+j) h)+1) 1 0 s.length))
    (qu (b+j) h (if s.length=0 then .emp (qn (qv (b+j) h)+1) else .mem (qn (qv (b+j) h)+1) ty (zN s)))):=(rfl)
theorem LA{j:Nat}{ty:TypeId}{s:List UInt8}{k ver sz' off m:Nat}:effE b h (.apps j ty) [.osl k ver sz' off m,.str s] t d nx=((qI h k ver=true∧tU (qv k h) ty=true∧m<=((cellsOf h k ver).getD []).length∧sz'=1∧off=0∧((m+s.length:Nat):Int)<=140737488355328)∧
   nx (qR t d (.osl k (ver+1) 1 0 (m+s.length)))
    (qu k h (oh (qv k h) ty ver m s.length (zN s)))):=(rfl)
theorem Jt{n:Nat}{v:AV}:qR t (some n) v=z6 n t v:=rfl
theorem Js{v:AV}:qR t none v=t:=rfl
theorem gQ:qk h .nl=some (0,[]):=rfl
theorem gR{n:Nat}{f:Nat->w7}:qk h (.sl n f)=some (n,(List.range n).flatMap f):=rfl
end
attribute [go_sem] getO_app0 getO_app setO_app0 setO_app verOf_mem verOf_emp tyOf_mem site_app site_app0 site_0_mem site_0_emp site_s cellsOf_app cellsOf_app0 cellsOf_0 cellsOf_s liveS_app liveS_app0 liveS_0_mem liveS_0_emp liveS_s tyOk_mem tyOk_emp b_add0 appO_mem appO_emp
attribute [go_sem] LF DK qci DO DN LC DL qch WO LA Jt Js gQ gR
attribute [go_sem] List.set_cons_zero List.set_cons_succ Option.isSome_some List.take_zero List.take_succ_cons List.take_nil List.drop_nil List.nil_append List.cons_append List.append_nil Nat.reduceAdd Nat.reduceMul Nat.reduceSub Nat.reduceLeDiff Nat.reduceEqDiff Nat.zero_add
end AF
end
section
namespace AF
open Go
theorem qO{P:Program}{f:Nat}{p:Bool}{vs:w7}{d:Option Nat}{nx:Nx}{t:w7}{h:w6}{r:AV}(hc:ACalls P f (strips vs) h r h)(hf:flags vs)(hn:nx (qR t d r) h):rn P f p vs d nx t h:=
 ⟨hf,r,h,hc,λ_=>rfl,hn⟩
theorem qE{P:Program}{f:Nat}{vs:w7}{d:Option Nat}{nx:Nx}{t:w7}{h h':w6}{r:AV}(hc:ACalls P f (strips vs) h r h')(hf:flags vs)(hn:nx (qR t d r) h'):rn P f false vs d nx t h:=
 ⟨hf,r,h',hc,by simp,hn⟩
theorem qU{P:Program}{f:Nat}{p g:Bool}{vs:w7}{d:Option Nat}{nx:Nx}{t:w7}{h:w6}{r:AV}(hc:g=true->flags vs∧ACalls P f (strips vs) h r h)(hn:nx (qR t d (.gd g r)) h):Qb P f p g vs d nx t h:=
 ⟨r,h,λe=>⟨(hc e).1,(hc e).2,λ_=>rfl⟩,λ_=>rfl,hn⟩
theorem qdr{t:w7}{h:w6}:kX t h []:=trivial
theorem qds{t:w7}{h:w6}{n:Nat}{l:List RV}(hl:kX t h l):kX t h (.tmp n::l):=⟨trivial,hl⟩
theorem Ea:flags []:=trivial
theorem D9{a:AV}{l:w7}(h:a.flag=true)(t:flags l):flags (a::l):=⟨h,t⟩
theorem qj{P:Program}{f:Nat}{p:Bool}{vs:w7}{d:Option Nat}{nx:Nx}{t:w7}{h:w6}(r:AV)(hn:nx (qR t d (.gd false r)) h):Qb P f p false vs d nx t h:=by
 refine⟨r,h,?_,λ_=>rfl,hn⟩;intro e;cases e
theorem qd{a b:Bool}(h:a=b):VLe (.bool a) (.bool b):=h▸VLe.refl _
theorem km{a b:List UInt8}(h:a=b):VLe (.str a) (.str b):=h▸VLe.refl _
theorem Hr{n m:Nat}{f g:Nat->w7}(e:n=m)(h: ∀i,i<m->f i=g i):VLe (.sl n f) (.sl m g):=by
 subst e;intro w σ x hx;have h1:=ja rfl hx;cases h1 with
 |nilsl=>exact .imm .nilsl
 |sl sz b off cap vals hn hm hb hlt hsz hc h1 hv=>
  refine .imm (.sl sz b off cap vals hn hm hb hlt (λi hi=> ?_) hc h1 (λi j c hi hj=> ?_))
  ·rw[<-h i hi];exact hsz i hi
  ·rw[<-h i hi]at hj;exact hv i j c hi hj
theorem qY{f:Nat->w7}:VLe .nl (.sl 0 f):=by
 intro w σ x hx;have h1:=ja rfl hx;cases h1 with
 |nl=>exact .imm .nilsl
theorem fg{l m:w7}(h:yv l m):VLe (.tup l) (.tup m):=by
 intro w σ x hx;obtain⟨vs,rfl,hl,hv⟩:=md hx;refine .tup (by rw[hl,h.length]) (λi c x hc hx=> ?_);obtain⟨a,ha,hle⟩:=h.get i c hc;exact hle w σ x (hv i a x ha hx)
def A4(v:AV)(h:w6)(m:Option Nat):Prop:=
 match v with
 | .op k ver off=>okL h (.load m) [.op k ver off]
 |_=>False
theorem sx{n:Nat}{m:Option Nat}{l:List RV}{t:w7}{h:w6}:kX t h (.cell n m::l)=(A4 (qV n t) h m∧kX t h l):=rfl
theorem ny{n:Nat}{m:Option Nat}{l:List RV}{t:w7}{h:w6}:jv t h (.cell n m::l)=valL h (.load m) [qV n t]::jv t h l:=rfl
theorem Qj{k ver off:Nat}{h:w6}{m:Option Nat}:A4 (.op k ver off) h m=okL h (.load m) [.op k ver off]:=rfl
attribute [go_sem] sx ny Qj
theorem my:zS [] [] []=some true:=rfl
theorem mw{ks:List AK}{k:IntKind}{a c:Int}{l m:w7}:zS (.int::ks) (.int k a::l) (.int k c::m)=(zS ks l m).map (λy=>decide (a=c)&&y):=by
 simp only[zS,aO,if_true];cases zS ks l m<;>rfl
theorem iu{ks:List AK}{a c:Bool}{l m:w7}:zS (.bool::ks) (.bool a::l) (.bool c::m)=(zS ks l m).map (λy=>(a==c)&&y):=by
 simp only[zS,aO];cases zS ks l m<;>rfl
theorem mz{ks:List AK}{a c:List UInt8}{l m:w7}:zS (.str::ks) (.str a::l) (.str c::m)=(zS ks l m).map (λy=>decide (a=c)&&y):=by
 simp only[zS,aO];cases zS ks l m<;>rfl
attribute [go_sem] my mw iu mz Option.map_some Bool.true_bne Bool.false_bne Bool.bne_false
theorem E9{a b:Bool}:(a|| !a&&b)=(a||b):=by cases a<;>simp
theorem qbK{a:Bool}:(a==false)= !a:=by cases a<;>rfl
attribute [go_sem] E9 qbK Bool.not_eq_true' Bool.or_eq_true decide_eq_false_iff_not Bool.or_eq_false_iff Bool.not_eq_false' Bool.and_eq_false_imp Bool.true_or Bool.or_true Bool.false_or Bool.true_and Bool.not_true Bool.not_false decide_not Bool.not_not
end AF
end
section
namespace AF
open Go
theorem wG{rs:List RV}{h0 h' tl:w6}{K:AV->w6->Prop}{t:w7}{r:AV}(hok:kX t (h'++tl) rs)(hl:h'.length=h0.length)(hlow: ∀o∈h',o∈h0∨lowO h0.length o)(hK:K r h')
  (hv:VLe (frz (λk=>decide (h0.length<=k)) (h'++tl) 8 (nk (jv t (h'++tl) rs))) r):fnQ rs h0 K .ret t (h'++tl):=
 ⟨r,h',hK,hok,⟨tl,rfl⟩,hl,hlow,VOut.of 8 hv⟩
theorem zW{rs:List RV}{h0 h' tl:w6}{K:AV->w6->Prop}{t:w7}{r:AV}(hok:kX t (h'++tl) rs)(hl:h'.length=h0.length)(hlow: ∀o∈h',o∈h0∨lowO h0.length o)(hK:K r h')
  (hv:VLe (frz (λk=>decide (h0.length<=k)) (h'++tl) 8 (nk (jv t (h'++tl) rs))) r):fnQ rs h0 K .normal t (h'++tl):=
 ⟨r,h',hK,hok,⟨tl,rfl⟩,hl,hlow,VOut.of 8 hv⟩
section
variable {k v : Nat} {h l : w6} {o o' : AObj} {ty : TypeId} {cs : w7}
theorem zQ(hk:k<h.length):qv k (h++l)=qv k h:=by unfold qv;rw[List.getElem?_append_left hk]
theorem zR(hk:k<h.length):qu k (h++l) o=qu k h o++l:=by unfold qu;rw[List.set_append_left _ _ hk]
theorem qQ:(qu k h o).length=h.length:=by unfold qu;simp
theorem jl(hk:k<h.length):qv k (qu k h o)=some o:=by unfold qv qu;rw[List.getElem?_set_self hk]
theorem kZ:qu k (qu k h o) o'=qu k h o':=by unfold qu;rw[List.set_set]
theorem qL(e:qv k h=some (.mem v ty cs)):cellsOf h k v=some cs:=by unfold cellsOf;rw[e];simp
theorem zA(e:qv k h=some o):k<h.length:=by unfold qv at e;exact (List.getElem?_eq_some_iff.1 e).1
theorem jB{x:AObj}(hx:x∈qu k h o):x∈h∨x=o:=by
 unfold qu at hx;exact List.mem_or_eq_of_mem_set hx
end
section
variable {k v w n : Nat} {h l : w6} {o o' : AObj} {ty : TypeId} {cs : w7}
theorem bG(hk:k<h.length):qv k (qu k h o++l)=some o:=by rw[zQ (by rw[qQ];exact hk),jl hk]
theorem wT(hk:k<h.length):cellsOf (qu k h (.mem w ty cs)++l) k v=if w=v then some cs else none:=by unfold cellsOf;rw[bG hk]
theorem gy(hk:k<h.length):qu k (qu k h o++l) o'=qu k h o'++l:=by rw[zR (by rw[qQ];exact hk),kZ]
theorem getO_seta:qv (h.length+n) (qu k h o++l)=l[n]? :=by
 have:= @getO_app (qu k h o) l n
 rwa [qQ]at this
theorem getO_seta0:qv h.length (qu k h o++l)=l[0]? :=by
 have:= @getO_app0 (qu k h o) l
 rwa [qQ]at this
theorem setO_seta:qu (h.length+n) (qu k h o++l) o'=qu k h o++l.set n o':=by
 have:= @setO_app (qu k h o) l n o'
 rwa [qQ]at this
theorem setO_seta0:qu h.length (qu k h o++l) o'=qu k h o++l.set 0 o':=by
 have:= @setO_app0 (qu k h o) l o'
 rwa [qQ]at this
theorem cellsOf_seta:cellsOf (qu k h o++l) (h.length+n) v=cellsOf l n v:=by unfold cellsOf;rw[getO_seta];rfl
theorem cellsOf_seta0:cellsOf (qu k h o++l) h.length v=cellsOf l 0 v:=by unfold cellsOf;rw[getO_seta0];rfl
theorem site_seta:qK (qu k h o++l) (h.length+n)=qK l n:=by unfold qK;rw[getO_seta];rfl
theorem site_seta0:qK (qu k h o++l) h.length=qK l 0:=by unfold qK;rw[getO_seta0];rfl
theorem liveS_seta:qI (qu k h o++l) (h.length+n) v=qI l n v:=by unfold qI;rw[getO_seta];rfl
theorem liveS_seta0:qI (qu k h o++l) h.length v=qI l 0 v:=by unfold qI;rw[getO_seta0];rfl
end
attribute [go_sem] getO_seta getO_seta0 setO_seta setO_seta0 cellsOf_seta cellsOf_seta0 site_seta site_seta0 liveS_seta liveS_seta0
theorem jJ{k:Nat}{h:w6}{o:AObj}(e:qv k h=some o):qu k h o=h:=by
 unfold qv at e;unfold qu;obtain⟨h1,h2⟩:=List.getElem?_eq_some_iff.1 e;rw[<-h2];exact List.set_getElem_self h1
theorem YH:nk []= .tup []:=rfl
attribute [go_sem] YH
end AF
end
section
namespace AF
open Go
def qeG(c:Option w7)(g:AV->AV)(off:Nat):AV:=
 match c with
 |some cs=> .ip ((cs.drop off).map g)
 |none=> .undef
def mo(o:Option AObj)(ver sz off len:Nat)(g:AV->AV):AV:=
 match o with
 |some (.mem ve _ cs)=>if ve=ver∧off+len*sz<=cs.length then .sl len (λi=>((cs.drop (off+i*sz)).take sz).map g) else .undef
 |some (.emp ve)=>if ve=ver then .nl else .undef
 |_=> .undef
section
variable {fz : Nat -> Bool} {h : w6} {n k ver sz off len : Nat}
theorem rei_op:rei fz h (n+1) (.op k ver off)=if fz k=true then qeG (cellsOf h k ver) (rei fz h n) off else .undef:=rfl
theorem rei_osl:rei fz h (n+1) (.osl k ver sz off len)=if fz k=true then mo (qv k h) ver sz off len (rei fz h n) else .undef:=rfl
theorem frz_op:frz fz h (n+1) (.op k ver off)=if fz k=true then rei fz h (n+1) (.op k ver off) else .op k ver off:=rfl
theorem frz_osl:frz fz h (n+1) (.osl k ver sz off len)=if fz k=true then rei fz h (n+1) (.osl k ver sz off len) else .osl k ver sz off len:=rfl
theorem ipOf_some{cs:w7}{g:AV->AV}:qeG (some cs) g off= .ip ((cs.drop off).map g):=rfl
theorem slOf_mem{cs:w7}{g:AV->AV}{ve:Nat}{ty:TypeId}:mo (some (.mem ve ty cs)) ver sz off len g=if ve=ver∧off+len*sz<=cs.length then .sl len (λi=>((cs.drop (off+i*sz)).take sz).map g) else .undef:=rfl
theorem slOf_emp{g:AV->AV}{ve:Nat}:mo (some (.emp ve)) ver sz off len g=if ve=ver then .nl else .undef:=rfl
theorem rei_int{k:IntKind}{a:Int}:rei fz h (n+1) (.int k a)= .int k a:=rfl
theorem rei_bool{a:Bool}:rei fz h (n+1) (.bool a)= .bool a:=rfl
theorem rei_str{a:List UInt8}:rei fz h (n+1) (.str a)= .str a:=rfl
theorem rei_sl{m:Nat}{f:Nat->w7}:rei fz h (n+1) (.sl m f)= .sl m f:=rfl
theorem rei_nl:rei fz h (n+1) .nl= .nl:=rfl
theorem rei_ip{cs:w7}:rei fz h (n+1) (.ip cs)= .ip cs:=rfl
theorem rei_agg{cs:w7}:rei fz h (n+1) (.agg cs)= .agg (cs.map (rei fz h n)):=rfl
theorem rei_tup{cs:w7}:rei fz h (n+1) (.tup cs)= .tup (cs.map (rei fz h n)):=rfl
theorem rei_fn{f:Fn}{a b:w7}:rei fz h (n+1) (.fn f a b)= .fn f (a.map (rei fz h n)) (b.map (rei fz h n)):=rfl
theorem rei_nilp:rei fz h (n+1) .nilp= .nilp:=rfl
theorem rei_undef:rei fz h (n+1) .undef= .undef:=rfl
end
attribute [go_sem] rei_op rei_osl frz_op frz_osl ipOf_some slOf_mem slOf_emp rei_int rei_bool rei_str rei_sl rei_nl rei_ip rei_agg rei_tup rei_fn rei_nilp rei_undef Nat.le_add_right Nat.le_refl Nat.mul_one Nat.one_mul
theorem AL{P:Program}{b:Nat}{r:List RO}{K:Nx}{t:w7}{h:w6}{d:Option Nat}{xs:List X}{j:Nat}{u:Bool}:opsA P b (⟨d,some (j,u),.callv,xs⟩::r) K t h=
  (qP (qV j t)=true∧(qx (qV j t) u=true->flags (evs t xs)∧yE P (strips (evs t xs)) d (opsA P b r K) t h)∧(qx (qV j t) u=false->opsA P b r K (qR t d .undef) h)):=by simp only[opsA,stepO,je,R.kd]
theorem Qf{P:Program}{k:Nat}{args:w7}{d:Option Nat}{nx:Nx}{t:w7}{h:w6}:yE P (.yld k::args) d nx t h=((∃s ts L,qv k h=some (.lp s ts L))∧kf P k args h λv h'=>nx (qR t d v) h'):=(rfl)
theorem dL:valP (.un .not) [.undef]= .bool true:=rfl
theorem Jh{g q:Bool}:kr (.bool false) (.gd g .undef) (.bool q)= .bool q:=rfl
attribute [go_sem] AL Qf dL Jh true_implies false_implies Bool.false_eq_true Bool.true_eq_false
end AF
end
section
namespace AF
open Go
theorem Z2{P:Program}{b:Nat}{l:List RO}: ∀ {nx nx':Nx} {t:w7} {h:w6},(∀t h,nx t h->nx' t h)->opsA P b l nx t h->opsA P b l nx' t h:=by
 induction l with
 |nil=>intro nx nx' t h hn H;exact hn _ _ H
 |cons o l ih=>intro nx nx' t h hn H;exact kN (λt h H=>ih hn H) H
theorem fV{h0:w6}{t:w7}{Q Q':Ex->Nx}{h:w6}(hq: ∀e t h,Q e t h->Q' e t h)(H:fU h0 t Q h):fU h0 t Q' h:=by
 obtain⟨hh,s,ts,L,h1,h2,h3,h4⟩:=H;refine⟨hh,s,ts,L,h1,h2,h3,?_⟩;cases s with
 |ready=>exact hq _ _ _ h4
 |ret=>exact hq _ _ _ h4
 |exit id=>exact hq _ _ _ h4
 |busy=>exact h4
theorem xK{P:Program}{b:Nat}{x:C}: ∀ {Q Q':Ex->Nx} {t:w7} {h:w6},(∀e t h,Q e t h->Q' e t h)->zy P b x Q t h->zy P b x Q' t h:=by
 induction x with
 |skip=>intro Q Q' t h hq H;exact hq _ _ _ H
 |ops l=>intro Q Q' t h hq H;exact Z2 (λt h H=>hq _ _ _ H) H
 |seq x y ihx ihy=>
  intro Q Q' t h hq H;refine ihx (λe t h H=> ?_) H;cases e with
  |normal=>exact ihy hq H
  |exit id=>exact hq _ _ _ H
  |ret=>exact hq _ _ _ H
 |cond c x y ihx ihy=>
  intro Q Q' t h hq H;simp only[zy,mM]at*;split at H
  ·exact⟨λe=>ihx hq (H.1 e),λe=>ihy hq (H.2 e)⟩
  ·exact⟨ihx hq H.1,ihy hq H.2⟩
  ·exact H.elim
 |block id x ih=>
  intro Q Q' t h hq H;refine ih (λe t h H=> ?_) H;cases e with
  |normal=>exact hq _ _ _ H
  |ret=>exact hq _ _ _ H
  |exit i=>
   simp only[Ex.inBlock]at*;split
   ·rename_i e;rw[if_pos e]at H;exact hq _ _ _ H
   ·rename_i e;rw[if_neg e]at H;exact hq _ _ _ H
 |loop x ih=>
  intro Q Q' t h hq H;obtain⟨I,h1,h2⟩:=H;refine⟨I,h1,λn t' h' hi=>ih (λe t h H=> ?_) (h2 n t' h' hi)⟩;cases e with
  |normal=>exact H
  |exit id=>exact hq _ _ _ H
  |ret=>exact hq _ _ _ H
 |range u ps x y ihx ihy=>
  intro Q Q' t h hq H L hy
  have:=H L hy
  split at this
  ·exact this.le (yv.refl _) (λv h' hr=>⟨v,VLe.refl _,fV hq hr⟩)
  ·exact this
 |exit id=>intro Q Q' t h hq H;exact hq _ _ _ H
 |ret=>intro Q Q' t h hq H;exact hq _ _ _ H
 |wk=>
  intro Q Q' t h hq H;obtain⟨t',h',h1,h2⟩:=H;exact⟨t',h',h1,hq _ _ _ h2⟩
 |draw d=>
  intro Q Q' t h hq H;obtain⟨M,h1,h2⟩:=H;exact⟨M,h1,λt' h' hm=>hq _ _ _ (h2 t' h' hm)⟩
 |bad=>intro Q Q' t h hq H;exact H
def Ge(o:Option AObj)(ver sz off n:Nat):Option (Nat×w7):=
 match o with
 |some (.mem v _ cs)=>if v=ver∧off+n*sz<=cs.length then some (n,(cs.drop off).take (n*sz)) else none
 |some (.emp v)=>if v=ver∧n=0 then some (0,[]) else none
 |_=>none
theorem dI{h:w6}{k ver sz off n:Nat}:qk h (.osl k ver sz off n)=Ge (qv k h) ver sz off n:=rfl
theorem J6{v ver sz off n:Nat}{ty:TypeId}{cs:w7}:Ge (some (.mem v ty cs)) ver sz off n=if v=ver∧off+n*sz<=cs.length then some (n,(cs.drop off).take (n*sz)) else none:=rfl
theorem J5{v ver sz off n:Nat}:Ge (some (.emp v)) ver sz off n=if v=ver∧n=0 then some (0,[]) else none:=rfl
theorem rh{k v z p n k' v' z' p' n':Nat}:yy (.osl k v z p n) (.osl k' v' z' p' n')=(k !=k'):=rfl
theorem t6{k v z p n m:Nat}{f:Nat->w7}:yy (.osl k v z p n) (.sl m f)=true:=rfl
theorem tZ{k v z p n:Nat}:yy (.osl k v z p n) .nl=true:=rfl
attribute [go_sem] Int.toNat_zero decide_true decide_false beq_self_eq_true
attribute [go_sem] dI J6 J5 rh t6 tZ
theorem n5{g:w6}{z:Nat}{i:AV}:valL g (.idxA z) [.nl,i]= .undef:=rfl
theorem dm{g:w6}{n:Option Nat}:valL g (.load n) [.undef]= .undef:=rfl
theorem dJ{g:w6}{n:Nat}:valL g (.fldA n) [.undef]= .undef:=rfl
theorem rj{op:BinOp}{y:AV}:xg op .undef y= .undef:=rfl
theorem Jn{p g:Bool}:kr (.bool true) (.bool p) (.gd g .undef)= .bool p:=rfl
theorem Ji{p g:Bool}:kr (.bool false) (.gd g .undef) (.bool p)= .bool p:=rfl
attribute [go_sem] n5 dm dJ rj Jn Ji
theorem Dm{P:Program}{b:Nat}{u:X}{ps:List Nat}{x y:C}{Q:Ex->Nx}{t:w7}{h:w6}:zy P b (.range u ps x y) Q t h=lD P (ev t u) ps (zy P b x) (zy P b y) Q t h:=(rfl)
attribute [go_sem] Dm
end AF
end
section
namespace AF
open Go
theorem HR.move{w:World}{σ:List OB}{h:w6}(H:HR w σ h){k j vj:Nat}{ty:TypeId}{cs:w7}(hj:qv j h=some (.mem vj ty cs))(hk:qK h k=true)(hne:k≠j):
  ∃σ',HR w σ' (qu k (qu j h (.emp (vj+1))) (.mem (qn (qv k h)+1) ty cs))∧Ext w σ w σ'∧
   ∀sz off len x,VR w σ (.osl j vj sz off len) x->VR w σ' (.osl k (qn (qv k h)+1) sz off len) x:=by
 obtain⟨ok,hok,hver⟩:=jK H hk;have hjl:j<σ.length:=by rw[H.len];exact zA hj
 have hkl:k<σ.length:=(List.getElem?_eq_some_iff.1 hok).1;obtain⟨oj,hoj⟩: ∃oj,σ[j]? =some oj:=⟨_,List.getElem?_eq_getElem hjl⟩
 have hobj:=H.obj j _ oj hj hoj;obtain⟨m1,m2,b,arr,m3,m4,m5,m6,m7,m8⟩:=hobj;rw[hver]
 let oj':OB:= { oj with blk:=none,ver:=oj.ver+1 }
 let ok':OB:= { oj with ver:=ok.ver+1 }
 let σ':=(σ.set j oj').set k ok'
 have gk:σ'[k]? =some ok':=by simp[σ',hkl]
 have gj:σ'[j]? =some oj':=by simp only[σ'];rw[List.getElem?_set_ne hne];simp[hjl]
 have go: ∀i,i≠k->i≠j->σ'[i]? =σ[i]? :=by
  intro i h1 h2;simp only[σ'];rw[List.getElem?_set_ne (λe=>h1 e.symm),List.getElem?_set_ne (λe=>h2 e.symm)]
 have blk: ∀(i:Nat) (o:OB) (b:Nat),σ'[i]? =some o->o.blk=some b->(i=k∧oj.blk=some b)∨(i≠k∧i≠j∧σ[i]? =some o):=by
  intro i o b h1 h2
  by_cases e1:i=k
  ·subst e1;rw[gk]at h1;cases h1;exact .inl ⟨rfl,h2⟩
  ·by_cases e2:i=j
   ·subst e2;rw[gj]at h1;cases h1;cases h2
   ·rw[go i e1 e2]at h1;exact .inr ⟨e1,e2,h1⟩
 have hext:Ext w σ w σ':=by
  refine⟨rfl,rfl,rfl,Nat.le_refl _,λ_ _ _=>rfl,?_,?_,λb r h=>⟨r,h⟩⟩
  ·rintro b ⟨i,o,h1,h2⟩;rcases blk i o b h1 h2 with⟨_,h3⟩|⟨_,_,h3⟩
   ·exact .inl ⟨j,oj,hoj,h3⟩
   ·exact .inl ⟨i,o,h3,h2⟩
  ·intro i o h1
   by_cases e1:i=k
   ·subst e1;rw[hok]at h1;cases h1;exact⟨ok',gk,by simp[ok'],by simp[ok']⟩
   ·by_cases e2:i=j
    ·subst e2;rw[hoj]at h1;cases h1;exact⟨oj',gj,by simp[oj'],by simp[oj']⟩
    ·exact⟨o,by rw[go i e1 e2];exact h1,Nat.le_refl _,λ_=>rfl⟩
 refine⟨σ',⟨by simp[σ',qu,H.len],?_,?_,?_⟩,hext,?_⟩
 ·intro i i' o o' b h1 h2 h3 h4;rcases blk i o b h1 h3 with⟨rfl,g1⟩|⟨g0,g1,g2⟩<;>rcases blk i' o' b h2 h4 with⟨rfl,g1'⟩|⟨g0',g1',g2'⟩
  ·rfl
  ·exact absurd (H.inj i' j o' oj b g2' hoj h4 g1) g1'
  ·exact absurd (H.inj i j o oj b g2 hoj h3 g1') g1
  ·exact H.inj i i' o o' b g2 g2' h3 h4
 ·intro i o b h1 h2;rcases blk i o b h1 h2 with⟨_,g1⟩|⟨_,_,g2⟩
  ·exact H.lt j oj b hoj g1
  ·exact H.lt i o b g2 h2
 ·intro i a o ha ho
  by_cases e1:i=k
  ·subst e1;have hkh:i<(qu j h (.emp (vj+1))).length:=by rw[qQ,<-H.len];exact hkl
   have:=jl (o:= .mem (ok.ver+1) ty cs) hkh
   unfold qv at this;rw[this]at ha;cases ha;rw[gk]at ho;cases ho;exact⟨rfl,m2,b,arr,m3,m4,m5,m6,m7,λi c x hc hx=>(m8 i c x hc hx).ext hext⟩
  ·by_cases e2:i=j
   ·subst e2;have hjh:i<h.length:=by rw[<-H.len];exact hjl
    simp only[qu]at ha;rw[List.getElem?_set_ne hne,List.getElem?_set_self hjh]at ha;cases ha;rw[gj]at ho;cases ho;exact⟨by simp[oj',m1],rfl⟩
   ·rw[go i e1 e2]at ho;simp only[qu]at ha;rw[List.getElem?_set_ne (λe=>e1 e.symm),List.getElem?_set_ne (λe=>e2 e.symm)]at ha;exact (H.obj i a o ha ho).ext hext (λ_ _=>rfl)
 ·intro sz off len x hx;cases hx with
  |imm h=>cases h
  |osl o ho hs hle hh=>
   rw[hoj]at ho;cases ho;refine .osl ok' gk hs (Nat.le_refl _) (λ_=> ?_);exact hh m1
def fnM(rs:List RV)(h0:w6)(k:Nat)(K:AV->w6->Prop):Ex->Nx
 | .exit _,_,_=>False
 |_,t,hh=> ∃(j vj sz off len:Nat) (ty:TypeId) (cs:w7) (tl:w6),kX t hh rs∧nk (jv t hh rs)= .osl j vj sz off len∧hh=h0++tl∧h0.length<=j∧qv j hh=some (.mem vj ty cs)∧
   (∀c∈cs,ze h0.length c=true)∧qK h0 k=true∧K (.osl k (qn (qv k h0)+1) sz off len) (qu k h0 (.mem (qn (qv k h0)+1) ty cs))
theorem re{P:Program}{f nt ns:Nat}{rs:List RV}{c:C}(hf:qN P f nt ns rs c){args:w7}{h:w6}{K:AV->w6->Prop}(k:Nat)(ha:args.length<=nt)
  (hw:zy P h.length c (fnM rs h k K) (args++List.replicate (nt-args.length) .undef) (h++List.replicate ns (.emp 0))):jo P f args h K:=by
 obtain⟨fn,body,js,imp,wks,h1,h2,h3,rfl,rfl,h6,h7⟩:=hf;refine⟨by simp[okF,h1,h2,h3],λw σ xs H hv=> ?_⟩;refine callsIn_of_wp_marks h1 h2 trivial ?_;obtain⟨p1,p2⟩:=H.pushN js.length;have hsr:SR w.heap.size w (σ++List.replicate js.length ⟨none,0,0,0⟩) (args++List.replicate (fn.ntmps-args.length) .undef) (h++List.replicate js.length (.emp 0))
   { tmps:=xs.toArray++Array.replicate (fn.ntmps-xs.toArray.size) Go.undef,defers:= [] }:=by
  refine⟨p1,by simp[hv.1],λi c x hc hx=> ?_,⟨[],rfl,.nil,Nat.le_refl _,by simp⟩⟩;rw[List.getElem?_append]at hc;simp only[Array.getElem?_append]at hx;have hz:xs.toArray.size=args.length:=by simp[hv.1]
  split at hc
  ·rename_i hi;rw[if_pos (by omega)]at hx;exact (hv.2 i c x hc (by simpa using hx)).ext p2
  ·rw[List.getElem?_replicate]at hc;split at hc
   ·cases hc;exact .imm .undef
   ·cases hc
 refine wpIn_mono (oG (b:=h.length) h7 w.heap.size none _ w _ _ _ _ hw (by simp) hsr) ?_;rintro e a' w' ⟨z,σ',t',hh,he,g1,g2,g3⟩;have key:(∃(j vj sz off len:Nat) (ty:TypeId) (cs:w7) (tl:w6),kX t' hh rs∧nk (jv t' hh rs)= .osl j vj sz off len∧hh=h++tl∧h.length<=j∧qv j hh=some (.mem vj ty cs)∧
   (∀c∈cs,ze h.length c=true)∧qK h k=true∧K (.osl k (qn (qv k h)+1) sz off len) (qu k h (.mem (qn (qv k h)+1) ty cs)))->
   LeavesInM Fence.wide 0 P fn a'.tmps (λe w'=> ∃v σ' r h',K r h'∧e= .returned v∧HR w' σ' h'∧VR w' σ' r v∧Ext w σ w' σ') a'.defers .returning w':=by
  rintro⟨j,vj,sz,off,len,ty,cs,tl,k1,k2,rfl,k3,k4,k5,k6,hK⟩;obtain⟨ms,d1,d2,d3,d4⟩:=g1.df;rw[d1];refine aV (N:=w.heap.size) ms w' d2 (λr hr=>⟨(d4 r hr).1,(d4 r hr).2.2.2⟩) (λw1 e1=> ?_);have H1:=g1.hr.dt e1;obtain⟨v,v1,v2⟩:=eV (P:=P) H1 g1.sz (λi c x hc hx=>(g1.tm i c x hc hx).dt e1) h6 k1;rw[k2]at v2;have ee:Ext w σ w1 σ':=(p2.trans g2).dt e1;have hkl:k<h.length:=by
   have:=k6
   unfold qK at this;split at this
   ·rename_i hx;exact zA hx
   ·rename_i hx;exact zA hx
   ·rename_i hx;exact zA hx
   ·cases this
  have hkt:qK (h++tl) k=true:=by unfold qK at k6 ⊢;rw[zQ hkl];exact k6
  obtain⟨σ2,q1,q2,q3⟩:=H1.move k4 hkt (by omega);have q3':=q3 _ _ _ _ v2;rw[zQ hkl]at q1 q3';have eh:qu k (qu j (h++tl) (.emp (vj+1))) (.mem (qn (qv k h)+1) ty cs)=qu k h (.mem (qn (qv k h)+1) ty cs)++qu (j-h.length) tl (.emp (vj+1)):=by
   unfold qu;rw[List.set_append_right _ _ k3,List.set_append_left _ _ hkl]
  rw[eh]at q1;obtain⟨m1,m2⟩:=HR.trunc H (ee.trans q2) q1 qQ (λo ho=>by
   rcases jB ho with h1|rfl
   ·exact .inl h1
   ·exact .inr k5)
  refine⟨v,v1,v,_,_,_,hK,rfl,m1,?_,m2⟩;cases q3' with
  |imm h=>cases h
  |osl o ho hs hle hh=>
   refine .osl o ?_ hs hle hh;rw[List.getElem?_take,if_pos hkl];exact ho
 cases e with
 |normal=>cases he;exact key g3
 |ret=>cases he;exact key g3
 |exit id=>cases he;exact g3.elim
 |goto l=>cases he
 |panic c=>cases he
 |outgrown=>cases he
theorem bX{P:Program}{f nt ns:Nat}{rs:List RV}{c:C}(hf:qN P f nt ns rs c){args:w7}{h:w6}{r:AV}{h':w6}(k:Nat)(ha:args.length<=nt)
  (hw:zy P h.length c (fnM rs h k λr1 h1=>r1=r∧h1=h') (args++List.replicate (nt-args.length) .undef) (h++List.replicate ns (.emp 0))):ACalls P f args h r h':=(re hf k ha hw).calls
end AF
end
section
namespace AF
open Go
section
variable {P : Program} {b : Nat} {r : List RO} {K : Nx} {t : w7} {h : w6} {d : Option Nat} {xs : List X} {j : Nat} {u : Bool}
theorem wg_bslc{i z n:Nat}{ty:TypeId}{zs:w7}{ps:List (Nat×Nat)}:opsA P b (⟨d,some (j,u),.bslc i z n ty zs ps,xs⟩::r) K t h=
  (qP (qV j t)=true∧(qx (qV j t) u=true->flags (evs t xs)∧effE b h (.bslc i z n ty zs ps) (strips (evs t xs)) t d (opsA P b r K))∧(qx (qV j t) u=false->opsA P b r K (qR t d .undef) h)):=by simp only[opsA,stepO,je,R.kd]
theorem wg_box{i:Nat}{ty:TypeId}:opsA P b (⟨d,some (j,u),.box i ty,xs⟩::r) K t h=
  (qP (qV j t)=true∧(qx (qV j t) u=true->flags (evs t xs)∧effE b h (.box i ty) (strips (evs t xs)) t d (opsA P b r K))∧(qx (qV j t) u=false->opsA P b r K (qR t d .undef) h)):=by simp only[opsA,stepO,je,R.kd]
theorem wg_app{i z m:Nat}{ty:TypeId}:opsA P b (⟨d,some (j,u),.app i z ty m,xs⟩::r) K t h=
  (qP (qV j t)=true∧(qx (qV j t) u=true->flags (evs t xs)∧effE b h (.app i z ty m) (strips (evs t xs)) t d (opsA P b r K))∧(qx (qV j t) u=false->opsA P b r K (qR t d .undef) h)):=by simp only[opsA,stepO,je,R.kd]
end
attribute [go_sem] wg_bslc wg_box wg_app
end AF
end
section
namespace AF
open Go
def qw(o:Option AObj)(ver:Nat):Option w7:=
 match o with
 |some (.mem v _ cs)=>if v=ver then some cs else none
 |_=>none
def qM(o:Option AObj)(ver:Nat):Bool:=
 match o with
 |some (.mem v _ _)=>v==ver
 |some (.emp v)=>v==ver
 |_=>false
section
variable {h l : w6} {i j k ver v : Nat} {o o' o'' : AObj} {ty : TypeId} {cs : w7}
theorem jb:cellsOf h k ver=qw (qv k h) ver:=rfl
theorem jI:qI h k ver=qM (qv k h) ver:=rfl
theorem ql:qw (some (.mem v ty cs)) ver=if v=ver then some cs else none:=rfl
theorem xP:qM (some (.mem v ty cs)) ver=(v==ver):=rfl
theorem dZ:qM (some (.emp v)) ver=(v==ver):=rfl
theorem qX(hne:k≠j):qv k (qu j h o)=qv k h:=by unfold qv qu;rw[List.getElem?_set_ne (λe=>hne e.symm)]
theorem fG(hk:k<h.length):qv k (qu j h o++l)=qv k (qu j h o):=zQ (by rw[qQ];exact hk)
theorem fH(hk:k<h.length):qv k (qu i (qu j h o) o'++l)=qv k (qu i (qu j h o) o'):=zQ (by rw[qQ,qQ];exact hk)
theorem gw(hk:k<h.length):qu k (qu j h o++l) o'=qu k (qu j h o) o'++l:=zR (by rw[qQ];exact hk)
theorem gx(hk:k<h.length):qu k (qu i (qu j h o) o'++l) o''=qu k (qu i (qu j h o) o') o''++l:=zR (by rw[qQ,qQ];exact hk)
theorem kY(hne:i≠j):qu i (qu j h o) o'=qu j (qu i h o') o:=by unfold qu;rw[List.set_comm _ _ (λe=>hne e.symm)]
end
end AF
end
section
namespace AF
open Go
theorem yS{α β:Type}{f:α->Option β}: ∀ {l:List α} {ys:List β},l.mapM f=some ys->ys.length=l.length∧ ∀(i:Nat) x y,l[i]? =some x->ys[i]? =some y->f x=some y:=by
 intro l
 induction l with
 |nil=>intro ys h;simp at h;subst h;simp
 |cons a l ih=>
  intro ys h;rw[List.mapM_cons]at h;cases ha:f a with
  |none=>simp[ha]at h
  |some b=>
   cases hl:l.mapM f with
   |none=>simp[ha,hl]at h
   |some zs=>
    simp[ha,hl]at h;subst h;obtain⟨h1,h2⟩:=ih hl;refine⟨by simp[h1],λi x y hx hy=> ?_⟩;cases i with
    |zero=>simp at hx hy;subst hx hy;exact ha
    |succ i=>exact h2 i x y (by simpa using hx) (by simpa using hy)
inductive FK where
 |bool
 |int (k:IntKind)
 |str
 deriving DecidableEq
section
variable {H : Type} {enc : TypeId × Value -> H} {P : Program} {w : World} {sp : Nat -> Bool} {held : Bool} {ow : Nat -> Prop}
end
theorem HR.nil(w:World):HR w [] []:=⟨rfl,by simp,by simp,by simp⟩
theorem ax(b:Nat): ¬own [] b:=λ⟨k,o,h,_⟩=>by simp at h
theorem VRs.nil'{w:World}{σ:List OB}:VRs w σ [] []:=⟨rfl,by simp⟩
theorem VRs.cons'{w:World}{σ:List OB}{a:AV}{v:Value}{as:w7}{vs:List Value}(h:VR w σ a v)(h':VRs w σ as vs):VRs w σ (a::as) (v::vs):=by
 refine⟨by simp[h'.1],λi c x hc hx=> ?_⟩;cases i with
 |zero=>simp at hc hx;subst hc hx;exact h
 |succ i=>exact h'.2 i c x (by simpa using hc) (by simpa using hx)
end AF
end
section
namespace AF
open Go Go.ChangeShapes Go.WideShapes Go.ChangeAt Go.RowKit
section
variable {H : Type} {enc : TypeId × Value -> H} {P : Program} {W W' : World}
theorem ma(hl:laidOutB P=true)(hb:Below W.heap.size W W'): ∀ {ts:List TypeId} {vs:List Value} {ds:List (DataW H)} {ps:List MemPlace},(∀t∈ts,P.readableRec t=true∧t<P.types.size)->
  (∀x∈ps,x.block<W.heap.size)->DataW.TrodAll enc P W 0 (λ_=>true) true ts vs ds ps->DataW.TrodAll enc P W' 0 (λb=>decide (b<W.heap.size)) true ts vs ds ps:=by
 intro ts
 induction ts with
 |nil=>
  intro vs ds ps _ _ h
  match vs,ds,h with
  | [],[],h=>exact h
 |cons t ts ih=>
  intro vs ds ps ht hp h
  match vs,ds,h with
  |v::vs,d::ds,⟨p,q,h1,h2,e⟩=>
   subst e;refine⟨p,q,?_,?_,rfl⟩
   ·exact Below.trod hl (ht t (by simp)).1 (ht t (by simp)).2 h1 hb (λx hx=>hp x (by simp[hx]))
   ·exact ih (λu hu=>ht u (by simp[hu])) (λx hx=>hp x (by simp[hx])) h2
theorem XK{f:Func}{s:ChangeSpec}{args:Array Value}{ds:List (DataW H)}{before:List MemPlace}{tb:TypeId}(hl:laidOutB P=true)(hv:s.vars= [])(hfn:s.fn H ds= { results:= [.lit (.bool true)],args:=ds })
  (hrt:f.resultTypes= #[tb]) (htb:P.underlying tb=some .bool) (hro: ∀t∈f.params.toList,P.readableRec t=true∧t<P.types.size)
  (hW:DataW.Whole enc P f.params.toList s.vars false W args.toList ds [] before) (hA:DataW.TrodAll enc P W 0 (λ_=>true) true f.params.toList args.toList ds before) (hb:Below W.heap.size W W'):
  s.post enc P f false true false false W args (.bool true) W':=by
 have hlt: ∀x∈before,x.block<W.heap.size:=λx hx=>hW.lt x hx
 refine⟨ds,[],before,[],before,[],hW,?_,?_,?_,?_,λh=>by cases h⟩
 ·rw[List.append_nil,hfn,hrt];exact⟨[],[],shut_bool htb true,rfl,rfl⟩
 ·rw[List.append_nil,hfn];exact ma hl hb hro hlt hA
 ·rw[List.append_nil,hfn,hv];rfl
 ·exact World.keptBut_mono (λx hx=>⟨hx,.inr (.inl hx)⟩) (hb.frame (· ∈before))
end
end AF
end
section
namespace AF
open Go
def Ai(P:Program):Nat->List Field->Option Nat
 |n,[]=>some n
 |n,f::r=>if f.offset=n then Ai P (n+P.cellsOf f.type) r else none
def wA(P:Program):Nat->TypeId->Bool
 |0,_=>false
 |d+1,t=>match P.underlying t with
  |some .bool=>decide (P.cellsOf t=1)
  |some (.int _)=>decide (P.cellsOf t=1)
  |some .string=>decide (P.cellsOf t=1)
  |some (.slice e)=>decide (P.cellsOf t=1)&&(decide (0<P.cellsOf e)&&wA P d e)
  |some (.struct fs)=>decide (Ai P 0 fs.toList=some (P.cellsOf t))&&fs.toList.all λf=>wA P d f.type
  |_=>false
def qW(P:Program):Nat->TypeId->w7->Prop
 |0,_,_=>False
 |d+1,t,as=>match P.underlying t with
  |some .bool=> ∃b,as= [.bool b]
  |some (.int k)=> ∃n,as= [.int k n]∧(Lit.int k n).wf=true
  |some .string=> ∃s:List UInt8,as= [.str s]∧s.length<=maxLen
  |some (.slice e)=> ∃(n:Nat) (f:Nat->w7),as= [.sl n f]∧n<=maxLen∧ ∀i,i<n->qW P d e (f i)
  |some (.struct fs)=>as.length=P.cellsOf t∧ ∀f∈fs.toList,qW P d f.type ((as.drop f.offset).take (P.cellsOf f.type))
  |_=>False
section
variable {H : Type} {enc : TypeId × Value -> H} {P : Program} {w : World} {held : Bool} {ow : Nat -> Prop}
structure xi (w:World) (ow:Nat->Prop) (as:w7) (cs:List Value):Prop where
 len:cs.length=as.length
 one: ∀(i:Nat) v,cs[i]? =some v->v.oneCell'=true
 vi: ∀(i:Nat) c v,as[i]? =some c->cs[i]? =some v->VI w ow c v
theorem xi.single{a:AV}{v:Value}(h1:v.oneCell'=true)(h2:VI w ow a v):xi w ow [a] [v]:=by
 refine⟨rfl,λi x hx=> ?_,λi c x hc hx=> ?_⟩
 ·cases i<;>simp at hx;subst hx;exact h1
 ·cases i<;>simp at hx hc;subst hx hc;exact h2
theorem xi.append{as bs:w7}{cs ds:List Value}(h:xi w ow as cs)(h':xi w ow bs ds):xi w ow (as++bs) (cs++ds):=by
 have hl:=h.len;refine⟨by simp[hl,h'.len],λi v hv=> ?_,λi c v hc hv=> ?_⟩
 ·rw[List.getElem?_append]at hv;split at hv
  ·exact h.one i v hv
  ·exact h'.one _ v hv
 ·rw[List.getElem?_append]at hc hv;split at hv
  ·rename_i hi;rw[if_pos (by omega)]at hc;exact h.vi i c v hc hv
  ·rename_i hi;rw[if_neg (by omega),<-hl]at hc;exact h'.vi _ c v hc hv
theorem mO{d fuel:Nat}(ih: ∀(t:TypeId) (cs:List Value) (dd:DataW H) (ps:List MemPlace),wA P d t=true->DataW.trod enc P w 0 (λ_=>true) held fuel t cs=some (dd,ps)-> ∃as,qW P d t as∧as.length=P.cellsOf t∧xi w ow as cs){cs:List Value}:
  ∀(fs:List Field) (n m:Nat) (xs:List (DataW H×List MemPlace)),Ai P n fs=some m->(∀f∈fs,wA P d f.type=true)->m<=cs.length->
   fs.mapM (λf=>DataW.trod enc P w 0 (λ_=>true) held fuel f.type ((cs.drop f.offset).take (P.cellsOf f.type)))=some xs->
   n<=m∧ ∃as,(∀f∈fs,n<=f.offset∧qW P d f.type ((as.drop (f.offset-n)).take (P.cellsOf f.type)))∧as.length=m-n∧xi w ow as ((cs.drop n).take (m-n)):=by
 intro fs
 induction fs with
 |nil=>
  intro n m xs ht _ hm _;cases ht;exact⟨Nat.le_refl _,[],by simp,by simp,⟨by simp,by simp,by simp⟩⟩
 |cons f r ihr=>
  intro n m xs ht hk hm hx;simp only[Ai]at ht;split at ht
  ·rename_i hoff;rw[List.mapM_cons]at hx;cases ha:DataW.trod enc P w 0 (λ_=>true) held fuel f.type ((cs.drop f.offset).take (P.cellsOf f.type))with
   |none=>simp[ha]at hx
   |some y=>
    cases hl:r.mapM (λf=>DataW.trod enc P w 0 (λ_=>true) held fuel f.type ((cs.drop f.offset).take (P.cellsOf f.type)))with
    |none=>simp[ha,hl]at hx
    |some zs=>
     obtain⟨g0,as1,g1,g2,g3⟩:=ihr (n+P.cellsOf f.type) m zs ht (λg hg=>hk g (by simp[hg])) hm hl;obtain⟨as0,k1,k2,k3⟩:=ih f.type _ y.1 y.2 (hk f (by simp)) (by rw[ha]);rw[hoff]at k3;refine⟨by omega,as0++as1,λg hg=> ?_,by rw[List.length_append,k2,g2];omega,?_⟩
     ·rcases List.mem_cons.1 hg with rfl|hg
      ·refine⟨by omega,?_⟩;rw[hoff,Nat.sub_self,List.drop_zero,List.take_append_of_le_length (by omega),List.take_of_length_le (by omega)];exact k1
      ·obtain⟨q1,q2⟩:=g1 g hg;refine⟨by omega,?_⟩;rw[List.drop_append,List.drop_of_length_le (by omega),List.nil_append,show g.offset-n-as0.length=g.offset-(n+P.cellsOf f.type) by omega];exact q2
     ·have e:(cs.drop n).take (m-n)=(cs.drop n).take (P.cellsOf f.type)++(cs.drop (n+P.cellsOf f.type)).take (m-(n+P.cellsOf f.type)):=by
       rw[show m-n=P.cellsOf f.type+(m-(n+P.cellsOf f.type)) by omega,List.take_add,List.drop_drop]
      rw[e];exact k3.append g3
  ·cases ht
theorem Ky{a:Addr}{v:Value}(h:w.cell? a=some v): ∃b off,a=⟨b,off,none⟩∧b<w.heap.size:=by
 obtain⟨b,off,spot⟩:=a;unfold World.cell? at h;split at h
 ·rename_i c e f hb;split at h
  ·cases h
  ·rename_i hs;cases spot with
   |some _=>simp at hs
   |none=>exact⟨b,off,rfl,(Array.getElem?_eq_some_iff.1 hb).1⟩
 ·cases h
theorem iM(how: ∀b,¬ow b): ∀(d fuel:Nat) (t:TypeId) (cs:List Value) (dd:DataW H) (ps:List MemPlace),wA P d t=true->DataW.trod enc P w 0 (λ_=>true) held fuel t cs=some (dd,ps)->
  ∃as,qW P d t as∧as.length=P.cellsOf t∧xi w ow as cs:=by
 intro d
 induction d with
 |zero=>intro fuel t cs dd ps hk;cases hk
 |succ d ih=>
  intro fuel t cs dd ps hk h;unfold wA at hk;unfold qW;split at hk
  ·rename_i ht;have hc:=of_decide_eq_true hk;obtain⟨b,rfl,_⟩:=DataW.trod_bool ht h;exact⟨[.bool b],⟨b,rfl⟩,hc.symm,xi.single rfl .bool⟩
  ·rename_i k ht;have hc:=of_decide_eq_true hk;obtain⟨n,rfl,_,hw⟩:=DataW.trod_int ht h;exact⟨[.int k n],⟨n,rfl,hw⟩,hc.symm,xi.single rfl .int⟩
  ·rename_i ht;have hc:=of_decide_eq_true hk;obtain⟨s,rfl,_,hw⟩:=DataW.trod_string ht h;have hsz:s.data.toList.length<=maxLen:=by rw[Array.length_toList];exact hw
   exact⟨[.str s.data.toList],⟨_,rfl,hsz⟩,hc.symm,xi.single rfl (by have:= @VI.str w ow s.data.toList;rw[Array.toArray_toList]at this;exact this)⟩
  ·rename_i e ht;simp only[Bool.and_eq_true,decide_eq_true_eq]at hk;obtain⟨hc,hpos,hk⟩:=hk;cases fuel with
   |zero=>simp[DataW.trod]at h
   |succ fuel=>
    have hcs:(cs= [.slice none 0 0])∨ ∃a len cap,cs= [.slice (some a) len cap]:=by
     unfold DataW.trod at h;rw[ht]at h;split at h<;>first|(rename_i g _;cases g;done)|skip
     all_goals first|(rename_i g;cases g;done)|skip
     all_goals first|exact .inl rfl|exact .inr ⟨_,_,_,rfl⟩|(cases h;done)
    rcases hcs with rfl|⟨a,len,cap,rfl⟩
    ·exact⟨[.sl 0 λ_=> []],⟨0,λ_=> [],rfl,Nat.zero_le _,λi hi=>absurd hi (Nat.not_lt_zero _)⟩,hc.symm,xi.single rfl .nilsl⟩
    ·simp only[DataW.trod,ht]at h;split at h
     ·rename_i hcc;obtain⟨_,c1,c2⟩:=hcc;rw[Option.bind_eq_some_iff]at h;obtain⟨elems,hm,hrest⟩:=h;rw[Option.map_eq_some_iff]at hrest;obtain⟨rest,hrest,_⟩:=hrest
      try simp only[if_true]at hrest
      obtain⟨m1,m2⟩:=yS hm;obtain⟨r1,r2⟩:=yS hrest;simp only[List.length_range]at m1 r1;have all: ∀i,i<cap-> ∃x,((w.cells? 0 (a.add (i*P.cellsOf e)) (P.cellsOf e)).bind (DataW.trod enc P w 0 (λ_=>true) held fuel e))=some x:=by
       intro i hi
       by_cases hl:i<len
       ·exact⟨_,m2 i i _ (by simp[hl]) (List.getElem?_eq_getElem (by omega))⟩
       ·have:=r2 (i-len) (i-len) _ (by rw[List.getElem?_range (by omega)]) (List.getElem?_eq_getElem (by omega))
        rw[show len+(i-len)=i by omega]at this;exact⟨_,this⟩
      by_cases hcap:cap=0
      ·subst hcap
       have:len=0:=by omega
       subst this;exact⟨[.sl 0 λ_=> []],⟨0,λ_=> [],rfl,Nat.zero_le _,λi hi=>absurd hi (Nat.not_lt_zero _)⟩,hc.symm,xi.single rfl .nilsl⟩
      ·obtain⟨x0,h0⟩:=all 0 (by omega);rw[Option.bind_eq_some_iff]at h0;obtain⟨cs0,h0,_⟩:=h0;rw[Nat.zero_mul]at h0;have hadd0:a.add 0=a:=by simp[Addr.add]
       rw[hadd0]at h0;unfold World.cells? at h0;rw[if_pos (Nat.zero_le _)]at h0;obtain⟨n1,n2⟩:=yS h0;simp only[List.length_range]at n1;have hcell:=n2 0 0 _ (by simp[hpos]) (List.getElem?_eq_getElem (show 0<cs0.length by omega));rw[hadd0]at hcell;obtain⟨b,off,rfl,hlt⟩:=Ky hcell;have hadd: ∀n,(⟨b,off,none⟩:Addr).add n=⟨b,off+n,none⟩:=by
        intro n;unfold Addr.add;split
        ·rename_i h;subst h;rfl
        ·rfl
       have hadd2: ∀n m,(⟨b,off+n,none⟩:Addr).add m=⟨b,off+n+m,none⟩:=by
        intro n m;unfold Addr.add;split
        ·rename_i h;subst h;rfl
        ·rfl
       have key: ∀i,i<len-> ∃(as:w7) (cs:List Value),qW P d e as∧as.length=P.cellsOf e∧xi w ow as cs∧(∀(j:Nat) v,cs[j]? =some v->w.cell? ⟨b,off+i*P.cellsOf e+j,none⟩=some v):=by
        intro i hi;obtain⟨x,hx⟩:=all i (by omega);rw[Option.bind_eq_some_iff]at hx;obtain⟨cs,h3,h4⟩:=hx;obtain⟨as,f1,f2,f3⟩:=ih fuel e cs x.1 x.2 hk h4;rw[hadd]at h3;unfold World.cells? at h3;rw[if_pos (Nat.zero_le _)]at h3;obtain⟨n1,n2⟩:=yS h3;simp only[List.length_range]at n1;refine⟨as,cs,f1,f2,f3,λj v hj=> ?_⟩;have hjl:j<P.cellsOf e:=by have:=(List.getElem?_eq_some_iff.1 hj).1;omega
        have:=n2 j j v (by simp[hjl]) hj
        rw[hadd2]at this;exact this
       have ex: ∃g:Nat->w7×List Value,∀i,i<len->qW P d e (g i).1∧(g i).1.length=P.cellsOf e∧xi w ow (g i).1 (g i).2∧(∀(j:Nat) v,(g i).2[j]? =some v->w.cell? ⟨b,off+i*P.cellsOf e+j,none⟩=some v):=by
        refine⟨λi=>if hi:i<len then ((key i hi).choose,(key i hi).choose_spec.choose) else ([],[]),λi hi=> ?_⟩;simp only[dif_pos hi];exact (key i hi).choose_spec.choose_spec
       obtain⟨g,hg⟩:=ex;refine⟨[.sl len λi=>(g i).1],⟨len,λi=>(g i).1,rfl,Nat.le_trans c1 c2,λi hi=>(hg i hi).1⟩,hc.symm,xi.single rfl (.sl (P.cellsOf e) b off cap (λi j=>(g i).2.getD j Go.undef) c1 c2 (λ_=>how b) hlt (λi hi=>(hg i hi).2.1) (λi j hi hj=> ?_) (λi j hi hj=> ?_) (λi j c hi hc=> ?_))⟩
       ·obtain⟨_,q2,q3,q4⟩:=hg i hi;have hl:=q3.len;have e:(g i).2[j]? =some (g i).2[j]:=List.getElem?_eq_getElem (by omega);rw[q4 j _ e,List.getD_eq_getElem?_getD,e];rfl
       ·obtain⟨_,q2,q3,q4⟩:=hg i hi;have hl:=q3.len;have e:(g i).2[j]? =some (g i).2[j]:=List.getElem?_eq_getElem (by omega);rw[List.getD_eq_getElem?_getD,e];exact q3.one j _ e
       ·obtain⟨_,q2,q3,q4⟩:=hg i hi;have hl:=q3.len;have hj:=(List.getElem?_eq_some_iff.1 hc).1;have e:(g i).2[j]? =some (g i).2[j]:=List.getElem?_eq_getElem (by omega);rw[List.getD_eq_getElem?_getD,e];exact q3.vi j c _ hc e
     ·cases h
  ·rename_i fs ht;simp only[Bool.and_eq_true,decide_eq_true_eq,List.all_eq_true]at hk;obtain⟨htile,hk⟩:=hk;cases fuel with
   |zero=>simp[DataW.trod]at h
   |succ fuel=>
    simp only[DataW.trod,ht]at h;split at h
    ·rename_i hcl;rw[Option.map_eq_some_iff]at h;obtain⟨xs,hm,_⟩:=h;obtain⟨_,as,g1,g2,g3⟩:=mO (λt cs dd ps=>ih fuel t cs dd ps) fs.toList 0 (P.cellsOf t) xs htile hk (by omega) hm;rw[Nat.sub_zero]at g2 g3;rw[List.drop_zero,List.take_of_length_le (by omega)]at g3;exact⟨as,⟨g2,λf hf=>by have:=(g1 f hf).2;rwa [Nat.sub_zero]at this⟩,g2,g3⟩
    ·cases h
  ·cases hk
theorem px(how: ∀b,¬ow b){d:Nat}{t:TypeId}{v:Value}{dd:DataW H}{ps:List MemPlace}(hk:wA P d t=true)(hc:v.cells= #[v])(h:DataW.Trod enc P w 0 (λ_=>true) held t v dd ps): ∃a,qW P d t [a]∧VI w ow a v:=by
 obtain⟨fuel,h⟩:=h;rw[hc]at h;obtain⟨as,g1,g2,g3⟩:=iM how d fuel t _ dd ps hk h;have hl:=g3.len
 match as,g1,g2,g3,hl with
 | [a],g1,g2,g3,_=>exact⟨a,g1,g3.vi 0 a v rfl rfl⟩
theorem bP(how: ∀b,¬ow b){d:Nat}{t:TypeId}{cs:Array Value}{dd:DataW H}{ps:List MemPlace}(hk:wA P d t=true)(h:DataW.Trod enc P w 0 (λ_=>true) held t (.agg cs) dd ps): ∃as,qW P d t as∧VI w ow (.agg as) (.agg cs):=by
 obtain⟨fuel,h⟩:=h;obtain⟨as,g1,g2,g3⟩:=iM how d fuel t _ dd ps hk h;refine⟨as,g1,.agg ?_ (λi x hx=>g3.one i x ?_) (λi c x hc hx=>g3.vi i c x hc ?_)⟩
 ·have:=g3.len;simpa[Value.cells] using this
 ·simpa[Value.cells] using hx
 ·simpa[Value.cells] using hx
end
end AF
end
section
namespace AF
open Go
def zE(v:Nat)(ty:TypeId)(cs:w7):AObj:=if cs= [] then .emp v else .mem v ty cs
section
variable {h l : w6} {k v w n c : Nat} {ty : TypeId} {cs ms : w7} {a : AV} {o : AObj}
theorem w8(h:cs≠ []):zE v ty cs= .mem v ty cs:=if_neg h
theorem verOf_own:qn (some (zE v ty cs))=v:=by unfold zE;split<;>rfl
theorem site_own0:qK (zE v ty cs::l) 0=true:=by unfold zE;split<;>rfl
theorem liveS_own0:qI (zE v ty cs::l) 0 w=(v==w):=by unfold zE;split<;>rfl
theorem tyOk_own:tU (some (zE v ty cs)) ty=true:=by
 unfold zE;split
 ·rfl
 ·simp[tU]
theorem cells_own0:((cellsOf (zE v ty cs::l) 0 v).getD [])=cs:=by
 unfold zE;split
 ·rename_i e;rw[e];rfl
 ·rw[cellsOf_0,if_pos rfl];rfl
theorem cellsS_own0:((cellsOf (zE v ty cs::l) 0 v).isSome=true)=(cs≠ []):=by
 unfold zE;split
 ·rename_i e;rw[e];simp[cellsOf,qv]
 ·rename_i e;rw[cellsOf_0,if_pos rfl];simp[e]
theorem VZ{b:AV}:oh (some (zE v ty cs)) ty w c (n+1) (b::ms)=zE (w+1) ty (cs.take c++b::ms):=by
 rw[show zE (w+1) ty (cs.take c++b::ms)= .mem (w+1) ty (cs.take c++b::ms)from w8 (by simp)];unfold zE;split
 ·rename_i e;rw[e];simp[oh]
 ·rfl
theorem appO_own1{b:AV}:oh (some (zE v ty cs)) ty w c 1 (b::ms)=zE (w+1) ty (cs.take c++b::ms):=VZ (n:=0)
end
attribute [go_sem] verOf_own site_own0 liveS_own0 tyOk_own cells_own0 cellsS_own0 appO_own1
end AF
end
section
namespace AF
open Go
def LowI(h hh:w6):Prop:=hh.length=h.length∧ ∀o∈hh,o∈h∨(lowO h.length o∧lowO (h.length+1) o)
theorem LowI.refl(h:w6):LowI h h:=⟨rfl,λ_ ho=> .inl ho⟩
theorem kT{hh tl:w6}{o:AObj}{k:Nat}(h:hh.length=k):qv k (hh++o::tl)=some o:=by subst h;exact getO_app0
theorem ba{hh tl:w6}{o o':AObj}{k:Nat}(h:hh.length=k):qu k (hh++o::tl) o'=hh++o'::tl:=by subst h;exact setO_app0
def tV(P:Program)(f:FuncId)(cap:w7)(xs:List w7):Prop:=
 ∀(h:w6) (ts:w7) (L:LInfo) (S:Nat->w6->Prop) (E:LS->w6->Prop),
  (∀i hh,S i hh->LowI h hh)->(∀s hh,E s hh->LowI h hh)->
  (∀i hh tl,(hi:i<xs.length)->S i hh->kf P h.length (xs[i]) (hh++ .lp .ready ts L::tl) (λr h'=> ∃hh',(r= .bool true∧S (i+1) hh'∧h'=hh'++ .lp .ready ts L::tl)∨(∃s,r= .bool false∧E s hh'∧h'=hh'++ .lp s ts L::tl)))->
  S 0 h->(∀c∈ts,ze (h.length+1) c=true)->
  jo P f (.yld h.length::cap) (h++ [.lp .ready ts L]) (λ_ h'=> ∃hh,(S xs.length hh∧h'=hh++ [.lp .ready ts L])∨ ∃s,E s hh∧h'=hh++ [.lp s ts L])
theorem sn{P:Program}{f:FuncId}{cap:w7}{xs:List w7}(hf:tV P f cap xs){ps:List Nat}{b:Nat}{x y:C}{Q:Ex->Nx}{ts:w7}{h:w6}(hps: ∀a∈xs,a.length=ps.length)
  (S:Nat->w6->Prop) (E:Ex->w6->Prop) (hS: ∀i hh,S i hh->LowI h hh) (hE: ∀s hh,E s hh->LowI h hh)
  (start:S 0 h) (hts: ∀c∈ts,ze (h.length+1) c=true)
  (body: ∀i hh tl L,(hi:i<xs.length)->S i hh->hh.length=h.length->
   zy P b x (λe t2 h2=>e= .normal∧h2=hh++ .lp .ready ts L::tl∧
    zy P b y (λe t3 h3=> ∃hh',h3=hh'++ .lp .busy ts L::tl∧hh'.length=h.length∧match e with
     | .normal=>S (i+1) hh'
     | .ret=>E .ret hh'
     | .exit id=>E (.exit id) hh') t2 (hh++ .lp .busy ts L::tl)) (kA ts ps (xs[i])) (hh++ .lp .ready ts L::tl))
  (done: ∀hh,S xs.length hh->Q .normal ts hh) (doneE: ∀e hh,E e hh->match e with
   | .normal=>False
   |e=>Q e ts hh):
  lD P (.fn (.func f) [] cap) ps (zy P b x) (zy P b y) Q ts h:=by
 intro L hy;show jo _ _ _ _ _;have key:=hf h ts L S (λs hh=>match s with
  | .ret=>E .ret hh
  | .exit id=>E (.exit id) hh
  |_=>False) hS
  (by
   intro s hh hs;cases s with
   |ret=>exact hE _ _ hs
   |exit id=>exact hE _ _ hs
   |ready=>exact hs.elim
   |busy=>exact hs.elim)
  (by
   intro i hh tl hi i4;have hlen:=(hS _ _ i4).1;refine hy h.length ts _ _ _ (kT hlen) (hps _ (List.getElem_mem hi)) ?_;have hb:=body i hh tl L hi i4 hlen;refine xK ?_ hb;rintro e t2 h2 ⟨rfl,rfl,h3⟩;refine⟨rfl,⟨ts,kT hlen⟩,λts' hts'=> ?_⟩;rw[kT hlen]at hts';cases hts';rw[ba hlen];refine xK ?_ h3;rintro e t3 h3' ⟨hh',rfl,g1,g2⟩;refine⟨ts,kT g1,?_⟩;cases e with
   |normal=>exact⟨hh',.inl ⟨rfl,g2,ba g1⟩⟩
   |ret=>exact⟨hh',.inr ⟨.ret,rfl,g2,ba g1⟩⟩
   |exit id=>exact⟨hh',.inr ⟨.exit id,rfl,g2,ba g1⟩⟩)
  start hts
 refine key.le (yv.refl _) ?_;rintro v h' ⟨hh,⟨g1,rfl⟩|⟨s,g1,rfl⟩⟩
 ·have hl:=hS _ _ g1;exact⟨v,VLe.refl _,hh,.ready,ts,L,rfl,hl.1,λo ho=>(hl.2 o ho).imp (λh=>h) And.left,done hh g1⟩
 ·cases s with
  |ready=>exact g1.elim
  |busy=>exact g1.elim
  |ret=>
   have hl:=hE _ _ g1;exact⟨v,VLe.refl _,hh,.ret,ts,L,rfl,hl.1,λo ho=>(hl.2 o ho).imp (λh=>h) And.left,doneE _ _ g1⟩
  |exit id=>
   have hl:=hE _ _ g1;exact⟨v,VLe.refl _,hh,.exit id,ts,L,rfl,hl.1,λo ho=>(hl.2 o ho).imp (λh=>h) And.left,doneE _ _ g1⟩
theorem oR{rs:List RV}{h0 h':w6}{K:AV->w6->Prop}{t:w7}{r:AV}(hok:kX t h' rs)(hl:h'.length=h0.length)(hlow: ∀o∈h',o∈h0∨lowO h0.length o)(hK:K r h')
  (hv:VLe (frz (λk=>decide (h0.length<=k)) h' 8 (nk (jv t h' rs))) r):fnQ rs h0 K .ret t h':=
 ⟨r,h',hK,hok,⟨[],(List.append_nil _).symm⟩,hl,hlow,VOut.of 8 hv⟩
theorem jR{rs:List RV}{h0 h':w6}{K:AV->w6->Prop}{t:w7}{r:AV}(hok:kX t h' rs)(hl:h'.length=h0.length)(hlow: ∀o∈h',o∈h0∨lowO h0.length o)(hK:K r h')
  (hv:VLe (frz (λk=>decide (h0.length<=k)) h' 8 (nk (jv t h' rs))) r):fnQ rs h0 K .normal t h':=
 ⟨r,h',hK,hok,⟨[],(List.append_nil _).symm⟩,hl,hlow,VOut.of 8 hv⟩
end AF
end
section
namespace AF
open Go
section
variable {P : Program} {b : Nat} {r : List RO} {K : Nx} {t : w7} {h : w6} {xs : List X}
theorem qdC{d:Nat}:opsA P b (⟨some d,none,.b2s,xs⟩::r) K t h=(flags (evs t xs)∧okL h .b2s (strips (evs t xs))∧opsA P b r K (z6 d t (valL h .b2s (strips (evs t xs)))) h):=by simp only[opsA,stepO,stepA,R.kd,qR]
theorem qbi{d j:Nat}{u:Bool}:opsA P b (⟨some d,some (j,u),.b2s,xs⟩::r) K t h=(qP (qV j t)=true∧(qx (qV j t) u=true->flags (evs t xs)∧okL h .b2s (strips (evs t xs)))∧opsA P b r K (z6 d t (.gd (qx (qV j t) u) (valL h .b2s (strips (evs t xs))))) h):=by simp only[opsA,stepO,je,R.kd,qR]
theorem qdL{d:Option Nat}:opsA P b (⟨d,none,.s2b,xs⟩::r) K t h=(flags (evs t xs)∧effE b h .s2b (strips (evs t xs)) t d (opsA P b r K)):=by simp only[opsA,stepO,stepA,R.kd]
theorem qcj{nx:w7->w6->Prop}{d:Option Nat}{s:List UInt8}:effE b h .s2b [.str s] t d nx=((s.length:Int)<=140737488355328∧nx (qR t d (.sl s.length λi=> [.int .u8 ((s.getD i 0).toNat:Int)])) h):=(rfl)
end
theorem w_s2bo{P:Program}{b:Nat}{r:List RO}{K:Nx}{t:w7}{h:w6}{xs:List X}{d:Option Nat}{j:Nat}{ty:TypeId}:opsA P b (⟨d,none,.s2bo j ty,xs⟩::r) K t h=(flags (evs t xs)∧effE b h (.s2bo j ty) (strips (evs t xs)) t d (opsA P b r K)):=by simp only[opsA,stepO,stepA,R.kd]
theorem LG{b:Nat}{t:w7}{h:w6}{nx:w7->w6->Prop}{d:Option Nat}{s:List UInt8}{j:Nat}{ty:TypeId}:effE b h (.s2bo j ty) [.str s] t d nx=((qK h (b+j)=true∧(s.length:Int)<=140737488355328)∧nx (qR t d (.osl (b+j) (qn (qv (b+j) h)+1) 1 0 s.length)) (qu (b+j) h (.mem (qn (qv (b+j) h)+1) (ty+yU) (zN s)))):=(rfl)
attribute [go_sem] w_s2bo LG
theorem qdI{P:Program}{b:Nat}{r:List RO}{K:Nx}{t:w7}{h:w6}{xs:List X}{d:Option Nat}{g n sz:Nat}:opsA P b (⟨d,none,.gix g n sz,xs⟩::r) K t h=(flags (evs t xs)∧effE b h (.gix g n sz) (strips (evs t xs)) t d (opsA P b r K)):=by simp only[opsA,stepO,stepA,R.kd]
attribute [go_sem] qdI
theorem BJ{b:Nat}{t:w7}{h:w6}{nx:w7->w6->Prop}{d:Option Nat}{g n sz:Nat}{k:IntKind}{i:Int}{cs:w7}(hg:z7 h g cs)(h0:0<=i∧i<n)(h2:cs.length=n*sz)(hn:nx (qR t d (.ip ((cs.drop (i.toNat*sz)).take sz))) h):
  effE b h (.gix g n sz) [.int k i] t d nx:=⟨cs,hg,h0,h2,hn⟩
theorem z7.app{h l:w6}{g:Nat}{cs:w7}(hg:z7 h g cs):z7 (h++l) g cs:=by
 obtain⟨k,bs,G,h1,h2⟩:=hg;exact⟨k,bs,G,by rw[List.getElem?_append_left (List.getElem?_eq_some_iff.1 h1).1];exact h1,h2⟩
theorem b9(c:UInt8):x8 (.int .u8 (c.toNat:Int))=c:=by simp[x8]
theorem cO(c:UInt8):dY (.int .u8 (c.toNat:Int)):=by
 have:=c.toNat_lt
 exact⟨by omega,by omega⟩
theorem jP(s:List UInt8):(zN s).length=s.length:=by simp[zN]
theorem nZ{g:w6}{s:List UInt8}:valL g .b2s [.sl s.length λi=> [.int .u8 ((s.getD i 0).toNat:Int)]]= .str s:=by
 show AV.str ((List.range s.length).map λi=>x8 (.int .u8 ((s.getD i 0).toNat:Int)))=_;congr 1;apply List.ext_getElem
 ·simp
 ·intro i h1 h2;simp only[List.getElem_map,List.getElem_range,b9];rw[List.getD_eq_getElem?_getD,List.getElem?_eq_getElem h2];rfl
theorem se{g:w6}{s:List UInt8}:okL g .b2s [.sl s.length λi=> [.int .u8 ((s.getD i 0).toNat:Int)]]=True:=eq_true (λi _=>cO _)
theorem nY{g:w6}:valL g .b2s [.nl]= .str []:=rfl
theorem sd{g:w6}:okL g .b2s [.nl]=True:=rfl
theorem mb{g:w6}{k v z p n:Nat}:valL g .b2s [.osl k v z p n]= .str (((((cellsOf g k v).getD []).drop p).take n).map x8):=rfl
theorem mW{g:w6}{k v z p n:Nat}:okL g .b2s [.osl k v z p n]=(qI g k v=true∧z=1∧p+n<=((cellsOf g k v).getD []).length∧ ∀c∈((((cellsOf g k v).getD []).drop p).take n),dY c):=rfl
theorem Fj{x:AV}{q:Bool}:kr (.bool false) x (.bool q)= .bool q:=by
 unfold kr;simp only[AV.strip,yA];split
 ·rename_i p' q' h1 h2;cases h2;simp
 ·simp
theorem Fp{y:AV}{p:Bool}:kr (.bool true) (.bool p) y= .bool p:=by
 unfold kr;simp only[AV.strip,yA];split
 ·rename_i p' q' h1 h2;cases h1;simp
 ·simp
attribute [go_sem] Fj Fp
theorem Qe{P:Program}{f:FuncId}{first cap args:w7}{d:Option Nat}{nx:Nx}{t:w7}{h:w6}{R:AV->w6->Prop}(hc:jo P f (first++args++cap) h R)(hn: ∀v h',R v h'->nx (qR t d v) h'):yE P (.fn (.func f) first cap::args) d nx t h:=⟨R,hc,hn⟩
theorem qy{P:Program}{f:Nat}{first cap args:w7}{d:Option Nat}{nx:Nx}{t:w7}{h:w6}{v:AV}(hc:ACalls P f (first++args++cap) h v h)(hn:nx (qR t d v) h):yE P (.fn (.func f) first cap::args) d nx t h:=⟨_,hc.toQ,by rintro _ _ ⟨rfl,rfl⟩;exact hn⟩
attribute [go_sem] qdC qbi qdL qcj nZ se nY sd mb mW
end AF
end
section
namespace AF
open Go
section
variable {P : Program} {b : Nat} {r : List RO} {K : Nx} {t : w7} {h : w6} {xs : List X}
theorem qdF{d:Nat}:opsA P b (⟨some d,none,.cap,xs⟩::r) K t h=(flags (evs t xs)∧okL h .cap (strips (evs t xs))∧opsA P b r K (z6 d t (valL h .cap (strips (evs t xs)))) h):=by simp only[opsA,stepO,stepA,R.kd,qR]
end
theorem valL_capnl{g:w6}:valL g .cap [.nl]= .int .i64 0:=rfl
theorem ZQ{g:w6}:okL g .cap [.nl]=True:=rfl
theorem tH{g:w6}{z:Nat}{lo hi:Bool}{bs:w7}:valL g (.slc z lo hi) (.nl::bs)= .nl:=rfl
theorem mX{g:w6}{z:Nat}{k:IntKind}{c:Int}:okL g (.slc z false true) [.nl,.int k c]=(c=0):=by
 simp[okL,loB,hiB,xt];omega
theorem lj{g:w6}{z:Nat}{k m:IntKind}{a c:Int}:okL g (.slc z true true) [.nl,.int m a,.int k c]=(a=0∧c=0):=by
 simp[okL,loB,hiB,xt];omega
theorem mY{g:w6}{z:Nat}{m:IntKind}{a:Int}:okL g (.slc z true false) [.nl,.int m a]=(a=0):=by
 simp[okL,loB,hiB,xt];omega
attribute [go_sem] qdF  valL_capnl ZQ tH mX lj mY
end AF
end
section
namespace AF
open Go
section
variable {P : Program} {b : Nat} {K : Nx} {t : w7} {h : w6}
theorem t_nil:aG P b .nil K t h=K t h:=(rfl)
theorem t_one{o:RO}{r:DT}:aG P b (.one o r) K t h=opsA P b [o] (aG P b r K) t h:=(rfl)
theorem t_two{x y:DT}:aG P b (.two x y) K t h=(aG P b x K t h∧aG P b y K t h):=(rfl)
theorem t_univ{r:DT}{d:Option Nat}{xs:List X}:aG P b (.uni ⟨d,none,.callv,xs⟩ r) K t h=Qc P (evs t xs) d (aG P b r K) t h:=(rfl)
theorem Qd{f:Nat}{first cap args:w7}{d:Option Nat}{nx:Nx}{v:AV}(hc:ACalls P f (first++strips args++cap) h v h)(hf:flags (.fn (.func f) first cap::args))(hn:nx (qR t d v) h):Qc P (.fn (.func f) first cap::args) d nx t h:=⟨hf,v,hc,hn⟩
theorem t_uni{r:DT}{d:Option Nat}{f:Nat}{p:Bool}{xs:List X}:aG P b (.uni ⟨d,none,.call f p,xs⟩ r) K t h=Wl P f (evs t xs) d (aG P b r K) t h:=(rfl)
theorem tg_uni{r:DT}{d:Option Nat}{f:Nat}{p:Bool}{xs:List X}{j:Nat}{u:Bool}:aG P b (.uni ⟨d,some (j,u),.call f p,xs⟩ r) K t h=(qP (qV j t)=true∧A3 P f (qx (qV j t) u) (evs t xs) d (aG P b r K) t h):=(rfl)
theorem jL{d:DT}{Q:Ex->Nx}(T:w7)(H:w6)(h1:aG P b d (λt' h'=>t'=T∧h'=H) t h)(h2:Q .normal T H):zy P b (.draw d) Q t h:=
 ⟨_,h1,λt' h' ⟨e1,e2⟩=>by subst e1;subst e2;exact h2⟩
theorem Wm{f:Nat}{vs:w7}{d:Option Nat}{nx:Nx}{r:AV}(hc: ∀h0,ACalls P f (strips vs) h0 r h0)(hf:flags vs)(hn:nx (qR t d r) h):Wl P f vs d nx t h:=⟨hf,r,hc,hn⟩
end
attribute [go_sem] t_univ t_nil t_one t_two t_uni tg_uni
end AF
end
section
namespace AF
open Go
section
variable {P : Program} {b : Nat} {r : List RO} {K : Nx} {t : w7} {h l : w6} {xs : List X} {ks : AK} {ok : Bool} {z : AV} {d : Option Nat} {nx : w7 -> w6 -> Prop}
theorem w_cpy{sz:Nat}:opsA P b (⟨d,none,.cpy sz,xs⟩::r) K t h=(flags (evs t xs)∧effE b h (.cpy sz) (strips (evs t xs)) t d (opsA P b r K)):=by simp only[opsA,stepO,stepA,R.kd]
theorem e_cpy{sz sz' k ver off m:Nat}{y:AV}:effE b h (.cpy sz) [.osl k ver sz' off m,y] t d nx=((qI h k ver=true∧(cellsOf h k ver).isSome=true∧sz'=sz∧off+m*sz<=((cellsOf h k ver).getD []).length∧(qk h y).isSome=true∧((qk h y).getD (0,[])).2.length=((qk h y).getD (0,[])).1*sz)∧
  nx (qR t d (.int .i64 ((min ((qk h y).getD (0,[])).1 m:Nat):Int))) (qu k h (.mem ver (KW (qv k h)) (((cellsOf h k ver).getD []).take off++((qk h y).getD (0,[])).2.take (min ((qk h y).getD (0,[])).1 m*sz)++((cellsOf h k ver).getD []).drop (off+min ((qk h y).getD (0,[])).1 m*sz))))):=(rfl)
end
section
variable {h l : w6} {ks : AK} {ok : Bool} {z x : AV} {k ver n v w : Nat} {es : List (AV × AV)} {o : AObj}
theorem strip_mp:(AV.mp k v).strip=AV.mp k v:=rfl
theorem flag_mp:(AV.mp k v).flag=true:=rfl
theorem solid_mp:(AV.mp k v).solid=true:=rfl
theorem cells_mp:(AV.mp k v).cells= [AV.mp k v]:=rfl
theorem frz_mp{fz:Nat->Bool}:frz fz h (n+1) (.mp k v)=if fz k then .undef else .mp k v:=rfl
end
attribute [go_sem] w_cpy e_cpy  strip_mp flag_mp solid_mp cells_mp  frz_mp
section
variable {P : Program} {b : Nat} {r : List RO} {K : Nx} {t : w7} {h : w6} {xs : List X} {d : Nat}
theorem qab{z:Nat}:opsA P b (⟨some d,none,.idxI z,xs⟩::r) K t h=(flags (evs t xs)∧okP (.idxI z) (strips (evs t xs))∧opsA P b r K (z6 d t (valP (.idxI z) (strips (evs t xs)))) h):=by simp only[opsA,stepO,stepA,R.kd,qR]
theorem RP{z:Nat}:opsA P b (⟨some d,none,.fldI z,xs⟩::r) K t h=(flags (evs t xs)∧okP (.fldI z) (strips (evs t xs))∧opsA P b r K (z6 d t (valP (.fldI z) (strips (evs t xs)))) h):=by simp only[opsA,stepO,stepA,R.kd,qR]
theorem GK{z:Option Nat}:opsA P b (⟨some d,none,.loadI z,xs⟩::r) K t h=(flags (evs t xs)∧okP (.loadI z) (strips (evs t xs))∧opsA P b r K (z6 d t (valP (.loadI z) (strips (evs t xs)))) h):=by simp only[opsA,stepO,stepA,R.kd,qR]
theorem GZ{z:Nat}{j:Nat}{u:Bool}:opsA P b (⟨some d,some (j,u),.idxI z,xs⟩::r) K t h=(qP (qV j t)=true∧(qx (qV j t) u=true->flags (evs t xs)∧okP (.idxI z) (strips (evs t xs)))∧opsA P b r K (z6 d t (.gd (qx (qV j t) u) (valP (.idxI z) (strips (evs t xs))))) h):=by simp only[opsA,stepO,je,R.kd,qR]
theorem GX{z:Nat}{j:Nat}{u:Bool}:opsA P b (⟨some d,some (j,u),.fldI z,xs⟩::r) K t h=(qP (qV j t)=true∧(qx (qV j t) u=true->flags (evs t xs)∧okP (.fldI z) (strips (evs t xs)))∧opsA P b r K (z6 d t (.gd (qx (qV j t) u) (valP (.fldI z) (strips (evs t xs))))) h):=by simp only[opsA,stepO,je,R.kd,qR]
theorem AN{z:Option Nat}{j:Nat}{u:Bool}:opsA P b (⟨some d,some (j,u),.loadI z,xs⟩::r) K t h=(qP (qV j t)=true∧(qx (qV j t) u=true->flags (evs t xs)∧okP (.loadI z) (strips (evs t xs)))∧opsA P b r K (z6 d t (.gd (qx (qV j t) u) (valP (.loadI z) (strips (evs t xs))))) h):=by simp only[opsA,stepO,je,R.kd,qR]
end
theorem valP_idxI{z n:Nat}{f:Nat->w7}{k:IntKind}{i:Int}:valP (.idxI z) [.sl n f,.int k i]= .ip (f i.toNat):=rfl
theorem Yg{z n:Nat}{f:Nat->w7}{k:IntKind}{i:Int}:okP (.idxI z) [.sl n f,.int k i]=((0<=i∧i<n)∧(f i.toNat).length=z):=rfl
theorem Vr{z:Nat}{cs:w7}:valP (.fldI z) [.ip cs]= .ip (cs.drop z):=rfl
theorem Yf{z:Nat}{cs:w7}:okP (.fldI z) [.ip cs]=(z<cs.length):=rfl
theorem tK{z:Option Nat}{cs:w7}:valP (.loadI z) [.ip cs]=cut cs 0 z:=rfl
theorem Z0{z:Option Nat}{cs:w7}:okP (.loadI z) [.ip cs]=j0 cs 0 z:=rfl
attribute [go_sem] qab RP GK GZ GX AN valP_idxI Yg Vr Yf tK Z0
end AF
end
theorem gdqA{α:Type _}{l:List α}{i:Nat}{a:α}:l.getD i a=l[i]?.getD a:=List.getD_eq_getElem?_getD
theorem zG{α:Type _}{l:List α}{i:Nat}(h:i<l.length):l[i]? =some l[i]:=List.getElem?_eq_getElem h
theorem qi{v:AF.AV}:AF.VLe v v:=AF.VLe.refl v
theorem aiA{p q:Prop}(h1:p)(h2:q):p∧q:=⟨h1,h2⟩
theorem eqt{p : Prop}(h : p) : p = True := eq_true h
theorem eqf{p : Prop}(h : ¬p) : p = False := eq_false h
theorem dqt{p : Prop}[Decidable p](h : p) : decide p = true := decide_eq_true h
theorem dqf{p : Prop}[Decidable p](h : ¬p) : decide p = false := decide_eq_false h
theorem ipo{c : Prop}{h : Decidable c}(hc : c){α : Sort _}{t e : α} : ite c t e = t := if_pos hc
theorem ine{c : Prop}{h : Decidable c}(hc : ¬c){α : Sort _}{t e : α} : ite c t e = e := if_neg hc
theorem nzl(n : Nat) : 0 <= n := Nat.zero_le n
theorem nlr(n : Nat) : n <= n := Nat.le_refl n
theorem nnz(n : Nat) : ¬n < 0 := Nat.not_lt_zero n
theorem lap{α : Type _}{as bs : List α} : (as ++ bs).length = as.length + bs.length := List.length_append
theorem lnl{α : Type _} : ([] : List α).length = 0 := rfl
theorem lco{α : Type _}{a : α}{as : List α} : (a :: as).length = as.length + 1 := rfl
theorem lan{α : Type _}(as : List α) : as ++ [] = as := List.append_nil as
theorem lna{α : Type _}(as : List α) : [] ++ as = as := rfl
theorem lca{α : Type _}{a : α}{as bs : List α} : (a :: as) ++ bs = a :: (as ++ bs) := rfl
theorem itn(n : Nat) : ((n : Int)).toNat = n := rfl
theorem lgs{α : Type _}{a : α}{i : Nat}{l : List α} : l[i]? = some a ↔ ∃ h : i < l.length, l[i] = a := List.getElem?_eq_some_iff
theorem ltl{α : Type _}{i : Nat}{l : List α}(h : l.length <= i) : l.take i = l := List.take_of_length_le h
theorem om{p : Prop}(h : p := by omega) : p := h
open Go AF
theorem wr{p:Prop}(h:p:=by repeat' first|(with_reducible apply aiA)|(apply qe;omega)|(apply qd;rfl)|exact qi):p:=h
theorem wD{α:Sort _}(e:α): ∃R,R=e:=⟨_,rfl⟩
theorem xv{p:Prop}(h:p:=by omega):p=True:=eq_true h
theorem xD{p:Prop}(h: ¬p:=by omega):p=False:=eq_false h
