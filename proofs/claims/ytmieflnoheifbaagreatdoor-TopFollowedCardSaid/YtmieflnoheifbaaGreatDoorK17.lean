import Derived.Test.YtmieflnoheifbaaGreatDoorK16
import Derived.Test.YtmieflnoheifbaaGreatDoorK13
import Derived.Test.YtmieflnoheifbaaGreatDoorK3
import Derived.Test.YtmieflnoheifbaaGreatDoorK5
import Derived.Test.YtmieflnoheifbaaGreatDoorK8
import Derived.Test.YtmieflnoheifbaaGreatDoorProg
import Derived.Test.YtmieflnoheifbaaGreatDoorK12
import Derived.Test.YtmieflnoheifbaaGreatDoorK10
import Derived.Test.YtmieflnoheifbaaGreatDoorK14
import Derived.Shelf.Strings.OnBuilder
import Derived.Test.YtmieflnoheifbaaGreatDoorK9
import Derived.Shelf.Slices.In.SortNone
import Derived.Lib.ItoaLen
set_option linter.all false
set_option maxHeartbeats 256000000
set_option maxRecDepth 100000
section
open Go Go.Proofs AF HY LN
namespace RC
def wq(L:List Un):JT:=L.flatMap unC
theorem Q8(u:Un):(unC u).length=3:=rfl
theorem yK(L:List Un):(wq L).length=L.length*3:=by
 unfold wq
 induction L with
 |nil=>rfl
 |cons a L ih=>rw[List.flatMap_cons,lap,ih,lco,Q8];omega
theorem Wt(A B:List Un):wq (A++B)=wq A++wq B:=by simp[wq]
theorem Wu(a:Un):wq [a]=unC a:=by simp[wq]
theorem Q9(L:List Un): ∀i,(wq L).drop (i*3)=wq (L.drop i):=by
 induction L with
 |nil=>intro i;simp[wq]
 |cons a L ih=>
  intro i;cases i with
  |zero=>simp
  |succ i=>
   rw[show wq (a::L)=unC a++wq L from rfl,show (a::L).drop (i+1)=L.drop i from rfl,<-ih i];rw[show (i+1)*3=(unC a).length+i*3 by rw[Q8];omega,List.drop_append,List.drop_eq_nil_of_le oma,lna,Nat.add_sub_cancel_left]
theorem mq{L:List Un}{i:Nat}(hi:i<L.length):((wq L).drop (i*3)).take 3=unC (L.getD i default):=by
 rw[Q9,List.drop_eq_getElem_cons hi,gdqA,zg hi];rfl
theorem JX(L:List Un):((List.range L.length).flatMap λi=>unC (L.getD i default))=wq L:=by
 unfold wq;have e:L=(List.range L.length).map λi=>L.getD i default:=by
  apply List.ext_getElem (by simp);intro i h1 h2;simp[gdqA,h1]
 conv=>rhs;rw[e]
 rw[List.flatMap_map]
theorem QM(h:JN)(L:List Un):qk h (qZ L)=some (L.length,wq L):=by
 show some (L.length,_)=_;rw[JX]
theorem cY(L:List Un)(n:Nat): ∀c∈wq L,qR n c=true:=by
 intro c hc;unfold wq at hc;obtain⟨x,_,hx⟩:=List.mem_flatMap.1 hc;simp only[unC,List.mem_cons,List.not_mem_nil,or_false]at hx;rcases hx with rfl|rfl|rfl<;>rfl
theorem tU{L:List Un}(h:L≠ []):valP (.isnil .slice false) [qZ L]= .bool false:=by
 unfold qZ;rw[vD,ine (by simpa using h)];rfl
theorem SI(L:List Un)(h:JN)(k:Nat)(hk:qG h k=true)(h0:L≠ [])(hl:L.length<=1000000000):
  ACalls Tryz.prog 71 [qZ L] h (.osl k (qo (qu k h)+1) 3 0 L.length) (qt k h (.mem (qo (qu k h)+1) 39 (wq L))):=by
 have s1:=λh=>QM h L
 have eP:=yK L;have hp:=List.length_pos_iff.2 h0;have z0:=tU h0;have z1:okP (.isnil .slice false) [qZ L]=True:=eqt trivial;refine bG Ab k (by simp) ?_;simp only[lco,lnl,Nat.reduceAdd,Nat.reduceSub,List.replicate,lca,lna];simp (disch:=omega) only[M8,s1,z0,z1,go_sem]
 repeat' first|(with_reducible apply aiA)
 all_goals first
  |omega
  |contradiction
  |skip
 all_goals try rfl
 exact⟨h.length+1,2,3,0,L.length,39,wq L,_,⟨trivial,trivial⟩,rfl,rfl,oma,by simp only[go_sem],cY L _,hk,rfl,rfl⟩
theorem du{n:Int}(h0:0<=n)(h1:n<18446744073709551616):IntKind.u64.wrap n=n:=by
 have e1:(2:Int)^IntKind.bits IntKind.u64=18446744073709551616:=rfl;have e3:IntKind.signed IntKind.u64=false:=rfl;unfold IntKind.wrap;rw[e1,e3];simp only[Bool.false_and,Bool.false_eq_true,if_false];omega
theorem Qr{a:Int}:Du .u64 a 32=a/4294967296:=by
 have e:(2:Int)^(min (32:Int).toNat IntKind.u64.bits)=4294967296:=rfl;unfold Du;rw[e,Int.fdiv_eq_ediv_of_nonneg _ oma]
theorem DI{n:Nat}(hn:n<=1000000000):ZE .u64 (n:Int) 4294967295=n:=by
 have e:IntKind.u64.bits=64:=rfl;unfold ZE;rw[e,BitVec.toNat_and,BitVec.toNat_ofInt,BitVec.toNat_ofInt];have e2:((n:Int)%((2^64:Nat):Int)).toNat=n:=by
  rw[show ((2^64:Nat):Int)=18446744073709551616 by rfl];omega
 have e3:((4294967295:Int)%((2^64:Nat):Int)).toNat=2^32-1:=by rfl
 rw[e2,e3,Nat.and_two_pow_sub_one_eq_mod,du oma oma];omega
theorem Tu(n:Nat)(h:JN)(hn:n<=1000000000):ACalls Tryz.prog 218 [.int .u64 1,.int .u64 (n:Int)] h (.tup [.int .u64 0,.int .u64 (n:Int)]) h:=by
 have e0:Du .u64 1 32=0:=by rw[Qr];rfl
 have e1:Du .u64 (n:Int) 32=0:=by rw[Qr];omega
 have e2:Du .u64 0 32=0:=by rw[Qr];rfl
 have e3:ZE .u64 1 4294967295=1:=by decide+kernel
 have e4:ZE .u64 0 4294967295=0:=by decide+kernel
 have e5:IntKind.u64.wrap 0=0:=by decide
 have e6:IntKind.u64.wrap (n:Int)=n:=du oma oma;refine acO GM ?_;simp (disch:=omega) only[Eu,go_sem]
 repeat' first|(apply qh;exact rvk;simp only[go_sem])|with_reducible apply aiA|exact clz|fail
 have e7:=DI hn;simp only[e0,e1,e2,e3,e4,e5,e6,e7,Int.zero_mul,Int.mul_zero,Int.one_mul,Int.add_zero];exact qi
theorem RH(n:Nat)(h:JN)(hn:n<=1000000000):ACalls Tryz.prog 144 [.int .u64 1,.int .u64 (n:Int)] h (.tup [.int .u64 0,.int .u64 (n:Int)]) h:=by
 have c1:=λh=>Tu n h hn
 refine acO Gj ?_;simp (disch:=omega) only[D8,go_sem]
 repeat' first|(refine cA (c1 _) flk ?_;simp (disch:=omega) only[go_sem])|exact tS|with_reducible apply aiA|exact clz|fail
def rpC(a:Int)(n i:Nat):JT:=gC (λj=> .int .i64 (if j<i then a else 0)) n
theorem tY(n:Nat):zQ [.int .i64 0] n=rpC 0 n 0:=by
 refine List.ext_getElem? λk=> ?_
 obtain⟨h1,h2⟩:=vU [AV.int .i64 0] n
 by_cases hk:k<n
 ·unfold rpC;rw[vS hk,ine (nnz _)]
  have:=h2 k (by simp;omega)
  rw[this,List.length_singleton,Nat.mod_one];rfl
 ·rw[List.getElem?_eq_none (by rw[h1];simp;omega),List.getElem?_eq_none (by unfold rpC;rw[km];omega)]
theorem wK(a:Int)(n i:Nat):(rpC a n i).length=n:=by unfold rpC;rw[km]
theorem wJ{a:Int}{n i k:Nat}(hk:k<n):(rpC a n i)[k]? =some (.int .i64 (if k<i then a else 0)):=by unfold rpC;rw[vS hk]
theorem VN(a:Int){n i j:Nat}(hj:j<=i)(hi:i+j<=n):(rpC a n i).take i++(rpC a n i).take j++(rpC a n i).drop (i+j)=rpC a n (i+j):=by
 have hl:=wK a n i;have l1:((rpC a n i).take i).length=i:=by rw[List.length_take];omega
 have l2:((rpC a n i).take j).length=j:=by rw[List.length_take];omega
 refine List.ext_getElem? λk=> ?_
 by_cases hk:k<n
 ·rw[wJ hk]
  by_cases g1:k<i
  ·rw[List.append_assoc,List.getElem?_append_left oma,List.getElem?_take,ipo g1,wJ hk,ipo g1,ipo oma]
  ·rw[List.append_assoc,List.getElem?_append_right oma,l1]
   by_cases g2:k-i<j
   ·rw[List.getElem?_append_left oma,List.getElem?_take,ipo g2,wJ oma,ipo oma,ipo oma]
   ·rw[List.getElem?_append_right oma,l2,List.getElem?_drop,show i+j+(k-i-j)=k by omega,wJ hk,ine g1,ine oma]
 ·rw[List.getElem?_eq_none (by simp only[lap,l1,l2,List.length_drop,hl];omega),List.getElem?_eq_none (by rw[wK];omega)]
theorem BH(a:Int){n:Nat}(hn:0<n):List.take 1 (qM [a])++List.drop 1 (rpC 0 n 0)=rpC a n 1:=by
 refine List.ext_getElem? λk=> ?_
 by_cases hk:k<n
 ·rw[wJ hk];cases k with
  |zero=>rfl
  |succ k=>
   rw[List.getElem?_append_right (by simp[qM]),List.getElem?_drop];rw[show 1+(k+1-(List.take 1 (qM [a])).length)=k+1 by simp[qM];omega,wJ hk,ine (nnz _),ine oma]
 ·rw[List.getElem?_eq_none (by simp[qM,wK];omega),List.getElem?_eq_none (by rw[wK];omega)]
theorem BG(a:Int)(n:Nat):rpC a n n=qM (List.replicate n a):=by
 refine List.ext_getElem? λk=> ?_
 by_cases hk:k<n
 ·rw[wJ hk,ipo hk];unfold qM;rw[List.getElem?_map,List.getElem?_replicate,ipo hk];rfl
 ·rw[List.getElem?_eq_none (by rw[wK];omega),List.getElem?_eq_none (by simp[qM];omega)]
theorem TO(a:Int)(n:Nat)(h:JN)(k:Nat)(hk:qG h k=true)(h0:0<n)(hl:n<=1000000000):
  ACalls Tryz.prog 68 [qx [a],.int .i64 (n:Int)] h (.osl k (qo (qu k h)+1) 1 0 n) (qt k h (.mem (qo (qu k h)+1) 3 (qM (List.replicate n a)))):=by
 have s1:=λh=>yJ h [a]
 have c1:=λh=>RH n h hl
 have k1:((n:Int)<0)=False:=eqf oma;have k2:((9223372036854775807:Int)<n)=False:=eqf oma;have z1: ∀g,valL g .len [qx [a]]= .int .i64 1:=λ_=>rfl
 have z2: ∀g,okL g .len [qx [a]]=True:=λ_=>eqt trivial
 have e5:IntKind.u64.wrap 1=1:=by decide
 have e6:IntKind.u64.wrap (n:Int)=n:=du oma oma;refine bG HO k (by simp) ?_;simp only[lco,lnl,Nat.reduceAdd,Nat.reduceSub,List.replicate,lca,lna];simp (disch:=omega) only[ND,z1,z2,k1,e5,e6,go_sem]
 repeat' first|(refine cA (c1 _) flk ?_;simp (disch:=omega) only[s1,k2,go_sem])|(with_reducible first|intro _|apply aiA)|exact clz|fail
 ·rw[tY,wK];exact nlr _
 ·rfl
 have e8:min 1 n=1:=by omega
 rw[e8,tY,BH a h0];refine qr (T:=λi:Nat=>qY 48 [(7,.osl (h.length+1) 1 1 0 n),(8,.int .i64 i)]) (H:=λi=>h++ [.emp 1,.mem 1 3 (rpC a n i)])
  (inv:=λi=>0<i∧i<=n) (m:=λi=>n-i) 1 ⟨Nat.one_pos,h0⟩ (Wk.temps ?_) ?_
 ·(simp only[go_sem,qg,qc,qb,qf];try exact tT)
 rintro i ⟨i1,i2⟩ K hK;have hrl:=wK a n i
 by_cases hi:i<n
 ·have q1:((i:Int)<n)=True:=eqt oma;have q2:(i<=n)=True:=eqt i2;simp (disch:=omega) only[q1,q2,hrl,Nat.sub_zero,Option.isSome_some,Option.getD_some,if_true,go_sem]
  repeat' first|with_reducible apply aiA|exact clz|fail
  ·rw[List.length_take,hrl];omega
  have e9:List.take (min i (n-i)) (List.take i (rpC a n i))=List.take (min i (n-i)) (rpC a n i):=by rw[List.take_take,show min (min i (n-i)) i=min i (n-i) by omega]
  rw[e9,VN a oma oma];refine hK _ _ (i+min i (n-i)) ⟨oma,oma⟩ oma (Wk.temps ?_)
  (simp only[Int.natCast_add,go_sem,qg,qc,qb,qf];try exact tT)
 ·have q1:((i:Int)<n)=False:=eqf oma;obtain rfl:i=n:=by omega
  simp (disch:=omega) only[q1,go_sem];rw[BG];exact⟨h.length+1,1,1,0,i,3,qM (List.replicate i a),_,⟨trivial,trivial⟩,rfl,rfl,oma,by simp only[go_sem],λc hc=>by
   unfold qM at hc;obtain⟨z,_,rfl⟩:=List.mem_map.1 hc
   rfl,hk,rfl,rfl⟩
end RC
end
section
open Go Go.Proofs AF
def KA:List Nat:= [69,68,71]
@[go_sem]def fI:DT:= DT.one ⟨some 78,none,.app 6 3 39 40,[.t 69,.t 77]⟩ (DT.one ⟨some 79,none,.len,[.t 78]⟩ DT.nil)
@[go_sem]def oA:DT:= DT.one ⟨some 77,none,.bslc 5 3 1 39 [i6 0,i6 0,.nl] [(0,3)],[.t 76]⟩ fI
@[go_sem]def dg:DT:= DT.one ⟨some 76,none,.build [i6 0,i6 0,.nl] [(0,1),(1,1)],[.t 72,.t 75]⟩ oA
@[go_sem]def dp:DT:= DT.one ⟨some 76,none,.build [i6 0,i6 0,.nl] [(0,1),(1,1)],[.t 72,.t 75]⟩ ((DT.one ⟨some 69,none,.call 71 false,[.t 68]⟩ oA).two (DT.one ⟨some 77,none,.bslc 5 3 1 39 [i6 0,i6
 0,.nl] [(0,3)],[.t 76]⟩ (DT.one ⟨some 69,none,.call 71 false,[.t 68]⟩ fI)))
@[go_sem]def fT:DT:= DT.one ⟨some 75,none,.len,[.t 74]⟩ dg
@[go_sem]def d8:DT:= DT.one ⟨some 74,none,.load none,[.t 73]⟩ fT
@[go_sem]def iA:DT:= DT.one ⟨some 72,none,.len,[.t 71]⟩ (DT.one ⟨some 73,none,.fldA 3,[.t 4]⟩ d8)
@[go_sem]def iB:DT:= (DT.one ⟨some 69,none,.call 71 false,[.t 68]⟩ (DT.one ⟨some 72,none,.len,[.t 71]⟩ dg)).two (DT.one ⟨some 72,none,.len,[.t 71]⟩ dp)
@[go_sem]def iX:DT:= (DT.one ⟨some 69,none,.call 71 false,[.t 68]⟩ fT).two (DT.one ⟨some 75,none,.len,[.t 74]⟩ dp)
@[go_sem]def d7:DT:= (DT.one ⟨some 69,none,.call 71 false,[.t 68]⟩ (DT.one ⟨some 72,none,.len,[.t 71]⟩ fT)).two ((DT.one ⟨some 72,none,.len,[.t 71]⟩ iX).two (DT.one ⟨some 75,none,.len,[.t 74]⟩ iB))
@[go_sem]def fr:DT:= (DT.one ⟨some 69,none,.call 71 false,[.t 68]⟩ d8).two (DT.one ⟨some 74,none,.load none,[.t 73]⟩ iX)
@[go_sem]def gT:DT:= (DT.one ⟨some 69,none,.call 71 false,[.t 68]⟩ (DT.one ⟨some 72,none,.len,[.t 71]⟩ d8)).two ((DT.one ⟨some 72,none,.len,[.t 71]⟩ fr).two (DT.one ⟨some 74,none,.load none,[.t 73]⟩
 d7))
@[go_sem]def i8:DT:= DT.one ⟨some 71,none,.load none,[.t 70]⟩ (DT.one ⟨some 72,none,.len,[.t 71]⟩ d8)
@[go_sem]def lf:DT:= DT.one ⟨some 71,none,.load none,[.t 70]⟩ (DT.one ⟨some 72,none,.len,[.t 71]⟩ fT)
@[go_sem]def ls:DT:= DT.one ⟨some 71,none,.load none,[.t 70]⟩ (DT.one ⟨some 72,none,.len,[.t 71]⟩ dg)
@[go_sem]def d9:DT:= (DT.one ⟨some 69,none,.call 71 false,[.t 68]⟩ ls).two (DT.one ⟨some 71,none,.load none,[.t 70]⟩ iB)
@[go_sem]def fv:DT:= (DT.one ⟨some 69,none,.call 71 false,[.t 68]⟩ lf).two ((DT.one ⟨some 71,none,.load none,[.t 70]⟩ d7).two (DT.one ⟨some 75,none,.len,[.t 74]⟩ d9))
@[go_sem]def dv:DT:= (DT.one ⟨some 69,none,.call 71 false,[.t 68]⟩ i8).two ((DT.one ⟨some 71,none,.load none,[.t 70]⟩ gT).two (DT.one ⟨some 74,none,.load none,[.t 73]⟩ fv))
def fM:C:=
 (pk [O1 4 (.box 0 26) 0,ON 8 (.nilo 1 7 133) [],oF 9 0] ((pk [O1 26 (.load (some 4)) 4,MV 27 1,O2 28 (.call 66 true) 26 27,MV 10 28] (pk [MV 29 10,oT 30 .neq 29 0] (p7 30 (p9
 [MV 31 10,ON 8 (.nilo 1 7 133) [],MV 9 31])))).seq ((pk [MV 32 3,oT 33 .lss 32 0,MV 34 33,pc 35 34 3,tv 36 34 1 4,tE 37 34 36,oX 38 34 .len 37,pb 39 34 (.bin .geq) 35 38,PT 40
 34 39] (p7 40 (p9 [ON 8 (.nilo 1 7 133) [],oF 9 2]))).seq (pk [O1 42 (.load (some 4)) 4,MV 43 1,MV 44 2,ON 45 (.call 67 true) [.t 42,.t 43,.t 44],MV 41 45,O1 46 (.ext 0) 41,O1
 47 (.ext 1) 41,MV 11 46,MV 12 47] ((pk [MV 48 12,oT 49 .neq 48 0] (p7 49 (p9 [MV 50 12,ON 8 (.nilo 1 7 133) [],MV 9 50]))).seq (pk [⟨some 51,none,.bslc 2 1 1 3 [i6 0]
 [(0,1)],[.c (i6 (-1))]⟩,MV 52 1,O1 53 .len 52,O2 54 (.call 68 false) 51 53,MV 13 54] ((pk [MV 55 11,O1 56 .len 55,oF 57 0] (C.block 0 (pk [BI 58 .lss 57 56] ((p8 58 0).seq
 ((C.block 1 (pk [MV 59 57,O2 60 (.idxA 1) 55 57,LD 61 60,MV 14 59,MV 15 61] (rv [MV 62 13,MV 63 15,MV 64 14,O2 65 (.idxA 1) 62 63,ST 1 65 64]))).seq (rv [oT 66 .add 57 1,MV 57
 66])))).loop)).seq (pk [⟨some 16,none,.alloc 3 45 [.nl],[]⟩] ((C.wk.seq (rv [O1 67 (.mkfn (Fn.func 69) 0) 16,⟨some 17,none,.alloc 4 135 [.nilfn],[]⟩,ST 1 17 67])).seq (pk [oF
 18 0] (((C.draw (DT.one ⟨some 68,none,.mv,[.t 1]⟩ (DT.one ⟨some 80,none,.mv,[.c (i6 0)]⟩ ((DT.one ⟨some 69,none,.call 71 false,[.t 68]⟩ (DT.one ⟨some 70,none,.fldA 3,[.t 4]⟩
 (DT.one ⟨some 71,none,.load none,[.t 70]⟩ iA))).two ((DT.one ⟨some 70,none,.fldA 3,[.t 4]⟩ ((DT.one ⟨some 69,none,.call 71 false,[.t 68]⟩ (DT.one ⟨some 71,none,.load none,[.t
 70]⟩ iA)).two ((DT.one ⟨some 71,none,.load none,[.t 70]⟩ ((DT.one ⟨some 69,none,.call 71 false,[.t 68]⟩ iA).two ((DT.one ⟨some 72,none,.len,[.t 71]⟩ ((DT.one ⟨some
 69,none,.call 71 false,[.t 68]⟩ (DT.one ⟨some 73,none,.fldA 3,[.t 4]⟩ d8)).two (DT.one ⟨some 73,none,.fldA 3,[.t 4]⟩ fr))).two (DT.one ⟨some 73,none,.fldA 3,[.t 4]⟩ gT)))).two
 (DT.one ⟨some 73,none,.fldA 3,[.t 4]⟩ dv)))).two (DT.one ⟨some 73,none,.fldA 3,[.t 4]⟩ ((DT.one ⟨some 69,none,.call 71 false,[.t 68]⟩ (DT.one ⟨some 70,none,.fldA 3,[.t 4]⟩
 i8)).two ((DT.one ⟨some 70,none,.fldA 3,[.t 4]⟩ dv).two (DT.one ⟨some 74,none,.load none,[.t 73]⟩ ((DT.one ⟨some 69,none,.call 71 false,[.t 68]⟩ (DT.one ⟨some 70,none,.fldA
 3,[.t 4]⟩ lf)).two ((DT.one ⟨some 70,none,.fldA 3,[.t 4]⟩ fv).two (DT.one ⟨some 75,none,.len,[.t 74]⟩ ((DT.one ⟨some 69,none,.call 71 false,[.t 68]⟩ (DT.one ⟨some 70,none,.fldA
 3,[.t 4]⟩ ls)).two (DT.one ⟨some 70,none,.fldA 3,[.t 4]⟩ d9)))))))))))))).seq (C.block 2 (pk [BI 81 .lss 80 79] ((p8 81 2).seq ((C.block 3 (pk [MV 82 80,O2 83 (.idxA 3) 78
 80,O1 84 (.load (some 3)) 83,⟨some 19,none,.alloc 7 3 [i6 0],[]⟩,⟨some 20,none,.alloc 8 39 [i6 0,i6 0,.nl],[]⟩,ST 1 19 82,ST 3 20 84] ((pk [O1 85 (.load (some 4)) 4,MV 86 18,oE
 87 0 20,LD 88 87,MV 89 3,ON 90 (.call 72 true) [.t 85,.t 86,.t 88,.t 89]] (C.block 4 (C.range (.t 90) [91] (rv [⟨some 21,none,.alloc 9 131 [.str [],.str [],.str [],i6 0,i6
 0,.str [],i6 0],[]⟩,ST 7 21 91]) (C.block 5 (rv [LD 92 17,O1 93 (.load (some 7)) 21,ON 94 .callv [.t 92,.t 93,.c (i6 (-1)),.c (i6 (-1))]]))))).seq (pk [oE 95 1 20,LD 96 95,MV
 18 96] (C.block 6 (pk [LD 127 19,MV 128 1,O1 129 .len 128,BI 130 .eql 127 129,MV 126 130] (C.cond (.t 126) C.skip (pk [MV 132 13,LD 133 19,O2 134 (.idxA 1) 132 133,LD 135
 134,oT 136 .lss 135 0,MV 131 136] (C.cond (.t 131) (pk [O1 137 (.load (some 4)) 4,oE 138 0 20,LD 139 138,oE 140 1 20,LD 141 140,MV 142 3,ON 143 (.call 72 true) [.t 137,.t
 139,.t 141,.t 142]] (C.block 9 (C.range (.t 143) [144] (rv [⟨some 22,none,.alloc 10 131 [.str [],.str [],.str [],i6 0,i6 0,.str [],i6 0],[]⟩,ST 7 22 144]) (C.block 10 (rv [LD
 145 17,O1 146 (.load (some 7)) 22,LD 147 19,ON 148 .callv [.t 145,.t 146,.t 147,.c (i6 (-1))]]))))) (pk [MV 97 2,MV 98 13,LD 99 19,O2 100 (.idxA 1) 98 99,LD 101 100,O2 102
 (.idxA 4) 97 101,O1 103 (.load (some 4)) 102,⟨some 23,none,.alloc 11 65 [i6 0,.str [],i6 0,.str []],[]⟩,ST 4 23 103] ((C.draw (DT.uni ⟨some 104,none,.call 73 true,[]⟩ (DT.one
 ⟨some 105,none,.fldA 0,[.t 23]⟩ (DT.one ⟨some 106,none,.load none,[.t 105]⟩ (DT.one ⟨some 107,none,.aidx 4 1 none,[.t 104,.t 106]⟩ (DT.one ⟨some 108,none,.load (some 4),[.t 4]⟩
 (DT.one ⟨some 109,none,.load (some 3),[.t 20]⟩ (DT.one ⟨some 110,none,.load (some 4),[.t 23]⟩ (DT.uni ⟨some 111,none,.callv,[.t 107,.t 108,.t 109,.t 110]⟩ (DT.one ⟨some
 112,none,.len,[.t 111]⟩ (DT.one ⟨some 113,none,.mv,[.c (i6 0)]⟩ DT.nil))))))))))).seq (C.block 7 (pk [BI 114 .lss 113 112] ((p8 114 7).seq ((C.block 8 (pk [O2 115 (.idxA 7) 111
 113,O1 116 (.load (some 7)) 115,⟨some 25,none,.alloc 12 131 [.str [],.str [],.str [],i6 0,i6 0,.str [],i6 0],[]⟩,ST 7 25 116] (rv [LD 117 17,O1 118 (.load (some 7)) 25,LD 119
 19,MV 120 13,LD 121 19,O2 122 (.idxA 1) 120 121,LD 123 122,ON 124 .callv [.t 117,.t 118,.t 119,.t 123]]))).seq (rv [oT 125 .add 113 1,MV 113 125])))).loop)))))))))))).seq (rv
 [oT 149 .add 80 1,MV 80 149])))).loop)).seq ((pk [LD 150 16,O1 151 .len 150,oT 152 .gtr 151 1024] (p7 152 (p9 [ON 8 (.nilo 1 7 133) [],oF 9 4]))).seq (p9 [LD 153 16,MV 8 153,oF
 9 0])))))))))))))
theorem wG:qK Tryz.prog 17 154 16 [RV.tmp 8,RV.tmp 9] fM:=fi Tryz.f17 [4,8,51,16,17,77,78,19,20,21,22,23,25,54,69,10] KA [16]
end
section
open Go Go.Proofs AF HY LN
namespace RC
def xe(x:Co)(l:List Un)(d:List Dc)(n:Nat):List Int:=(List.range l.length).map λk=>wl x l d k n
theorem lG(x:Co)(l:List Un)(d:List Dc)(n:Nat):(xe x l d n).length=l.length:=by unfold xe;simp
theorem AN{x:Co}{l:List Un}{d:List Dc}{n k:Nat}(hk:k<l.length):(xe x l d n).getD k 0=wl x l d k n:=by
 unfold xe;rw[gdqA,List.getElem?_map,List.getElem?_range hk];rfl
theorem Is(x:Co)(l:List Un)(d:List Dc):xe x l d 0=List.replicate l.length (-1):=by
 unfold xe;refine List.ext_getElem (by simp) (λi h1 h2=> ?_);simp[wl]
theorem tX{x:Co}{l:List Un}{d:List Dc}{n k:Nat}(hk:k<l.length)(he:vk x l (d.getD n default)=k):xe x l d (n+1)=(xe x l d n).set k (n:Int):=by
 unfold xe;refine List.ext_getElem (by simp) (λi h1 h2=> ?_);rw[List.getElem_set];simp only[List.getElem_map,List.getElem_range]
 by_cases g:k=i
 ·subst g;rw[ipo rfl];unfold wl;rw[ipo he]
 ·rw[ine g]
  conv=>lhs;unfold wl
  rw[ine (by rw[he];omega)]
theorem IG{x:Co}{l:List Un}{d:List Dc}{i:Nat}(hi:i<d.length):(plG x l d d.length).getD i 0=vk x l (d.getD i default):=by
 unfold plG;rw[List.take_length,gdqA,List.getElem?_map,zg hi,gdqA,zg hi];rfl
structure EsS where
 k:Nat
 vb:Nat
 O7:AObj
 O8:AObj
 O9:AObj
 O10:AObj
 O11:AObj
 O12:AObj
def rwK(x:Co)(l:List Un)(d:List Dc)(s k:Nat):List Rw:=if k<=l.length then rwL x l d s k else rwA x l d s
def nxT(x:Co)(l:List Un)(k:Nat):Nat:=if k<=l.length then zf l k else x.col.length
theorem cH{v n:Nat}{L:List Wd}{ty:TypeId}{fz:Nat->Bool}{h:JN}{d:Nat}(hn:n=L.length):VLe (fP (some (ze v ty (jv L))) v 7 0 n (rei fz h (d+1))) (jl L):=by
 subst hn;unfold ze;split
 ·rename_i e
  have:L= []:=by
   cases L with
   |nil=>rfl
   |cons a r=>exact absurd e (by simp[jv,wdC])
  subst this;rw[slOf_emp,ipo rfl];exact qU
 ·rw[slOf_mem,ipo ⟨rfl,by rw[my];omega⟩];refine VLe.sl_eq rfl (λi hi=> ?_);simp only[Nat.zero_add];rw[mw hi];rfl
theorem I4{x:Co}{l:List Un}{d:List Dc}{s:Nat}: ∀ {j k:Nat},k<=j->(rwL x l d s k).length<=(rwL x l d s j).length:=by
 intro j
 induction j with
 |zero=>
  intro k h;obtain rfl:k=0:=by omega
  exact nlr _
 |succ j ih=>
  intro k h
  by_cases e:k=j+1
  ·subst e;exact nlr _
  ·refine Nat.le_trans (ih (show k<=j by omega)) ?_
   conv=>rhs;unfold rwL
   rw[lap];omega
theorem Qj{x:Co}{l:List Un}{d:List Dc}{s k:Nat}(h:k<=l.length):(rwL x l d s k).length<=(rwA x l d s).length:=by
 refine Nat.le_trans (I4 h) ?_;unfold rwA;rw[lap];omega
theorem Be{x:Co}{l:List Un}(ho:CoOk x)(hus:vr x l=true){k:Nat}(hk:k<l.length){o:Dc}(hE:ai x l o=0): ∀p∈gV x l k o,PcF p:=by
 obtain⟨a1,a2,a3,a4,_⟩:=jz hus hk;obtain⟨p1,p2,p3,p4,p5,p6⟩:=xJ hE;intro p hp;unfold gV at hp;split at hp
 ·have:=(mg p4).2.1
  exact vV ho this oma p hp
 ·split at hp
  ·rename_i g;obtain⟨r1,r2,r3,r4⟩:=sd p6 g;exact XE r2 p hp
  ·cases hp
theorem Bf{x:Co}{l:List Un}{d:List Dc}{s:Nat}(ho:CoOk x)(hus:vr x l=true)(hs:s<x.sig.length)(hpl: ∀i,i<d.length->ai x l (d.getD i default)=0){k:Nat}(hk:k<l.length): ∀r∈rwU x l d s k,PcF r.p:=by
 obtain⟨a1,a2,a3,a4,_⟩:=jz hus hk;intro r hr;unfold rwU at hr;split at hr
 ·exact vV ho hs oma _ (jh.1 hr).1
 ·rename_i g
  have:=xd x l d k d.length
  exact Be ho hus hk (hpl _ oma) _ (jh.1 hr).1
theorem gS{x:Co}{l:List Un}{d:List Dc}{s:Nat}(ho:CoOk x)(hus:vr x l=true)(hs:s<x.sig.length)(hpl: ∀i,i<d.length->ai x l (d.getD i default)=0): ∀ {k:Nat},k<=l.length-> ∀r∈rwL x l d s k,PcF r.p:=by
 intro k
 induction k with
 |zero=>intro _ r hr;cases hr
 |succ k ih=>
  intro hk r hr;obtain⟨a1,a2,a3,a4,_⟩:=jz hus (show k<l.length by omega);have a5:=aj hus (show k<l.length by omega);unfold rwL at hr;rcases List.mem_append.1 hr with hr|hr
  ·exact ih oma r hr
  ·rcases List.mem_append.1 hr with hr|hr
   ·exact vV ho hs oma _ (jh.1 hr).1
   ·exact Bf ho hus hs hpl oma r hr
theorem TN{hh:JN}{j k v w:Nat}(n:Nat)(a:Int)(cs:JT)(hj:qu j hh=some (.mem v 3 (.int .i64 a::cs)))(hk:qu k hh=some (.emp w))(h0:0<n)(hl:n<=1000000000):
  ACalls Tryz.prog 68 [.osl j v 1 0 1,.int .i64 (n:Int)] hh (.osl k (w+1) 1 0 n) (qt k (qt j hh (.emp (v+1))) (.mem (w+1) 3 (qM (List.replicate n a)))):=by
 have hne:j≠k:=λe=>by subst e;rw[hj]at hk;cases hk
 have hs:qG hh j=true:=by unfold qG;rw[hj]
 have e1:xa [j] hh=qt j hh (.emp (v+1)):=by show qt j hh (.emp (qo (qu j hh)+1))=_;rw[hj];rfl
 have hk1:qu k (qt j hh (.emp (v+1)))=some (.emp w):=by rw[qQ (λe=>hne e.symm)];exact hk
 refine ACalls.frzd [j] (by show (qG hh j&&true)=true;rw[hs];rfl) ?_;rw[e1];have h1:=TO a n (qt j hh (.emp (v+1))) k (by unfold qG;rw[hk1]) h0 hl;rw[hk1]at h1;refine h1.le ⟨?_,qi,trivial⟩ (qi);have hc:=qJ hj;have e: [j].contains j=true:=by simp
 simp only[go_sem,e,if_true,hc];rw[hj,slOf_mem,ipo ⟨rfl,by simp⟩];refine VLe.sl_eq rfl (λi hi=> ?_);obtain rfl:i=0:=by omega
 rfl
theorem SN(x:Co)(l:List Un)(d:List Dc)(s:Int)(h:JN)(hz:yv x)(hu:aM l)(hp:kM SG h)(hg:jb h frmN frmC)(hl0:l≠ [])(hd:d.length<=1000000)(ht: ∀o∈d,o.txt.length<=1000)(hN0:vaE x l=0->(rwA x l d s.toNat).length<=1000000000):
  ACalls Tryz.prog 17 [.agg (coC x),qZ l,vI d,.int .i64 s] h (.tup [jl (esR x l d s),.int .i64 (esE x l d s)]) h:=by
 have c1:=λl'=>YD x l (h++l') hz hu (hp.app l')
 have zu: ∀g l,valL g .len [qZ l]= .int .i64 l.length:=λ_ _=>rfl
 have zv: ∀g l,okL g .len [qZ l]=True:=λ_ _=>eqt trivial
 have zu1: ∀g l,valL g .len [strs l]= .int .i64 l.length:=λ_ _=>rfl
 have zv1: ∀g l,okL g .len [strs l]=True:=λ_ _=>eqt trivial
 have hE:esE x l d s=(if vaE x l≠0 then vaE x l else if s<0∨(x.sig.length:Int)<=s then 2 else if yo x l d≠0 then yo x l d else if 1024<(rwA x l d s.toNat).length then 4 else 0):=rfl;unfold esR
 by_cases g:vaE x l=0
 case neg=>
  have k1:(vaE x l=0)=False:=eqf g;rw[ipo g]at hE;rw[hE,ine g];unfold coC at c1;refine acO wG ?_;simp (disch:=omega) only[fM,coC,go_sem]
  repeat' first|(refine cA (c1 _) flk ?_;simp (disch:=omega) only[k1,go_sem])|(apply qa;exact rvk;simp only[go_sem])
  exact VLe.tup ⟨qU,qi,trivial⟩
 rw[ine (by simpa using g)]at hE;have hN:=hN0 g;simp only[g]at c1;obtain⟨hca,hus,hcv⟩:=bD g;have ho:=j6 hca
 by_cases g2:s<0
 ·have k2:(s<0)=True:=eqt g2;rw[ipo (.inl g2)]at hE;rw[hE,ine (by decide)];unfold coC at c1;refine acO wG ?_;simp (disch:=omega) only[fM,coC,go_sem]
  repeat' first|(refine cA (c1 _) flk ?_;simp (disch:=omega) only[k2,go_sem])|(apply qa;exact rvk;simp only[go_sem])
  exact VLe.tup ⟨qU,qi,trivial⟩
 have k2:(s<0)=False:=eqf g2
 by_cases g3:(x.sig.length:Int)<=s
 ·have k3:((x.sig.length:Int)<=s)=True:=eqt g3;rw[ipo (.inr g3)]at hE;rw[hE,ine (by decide)];unfold coC at c1;refine acO wG ?_;simp (disch:=omega) only[fM,coC,go_sem]
  repeat' first|(refine cA (c1 _) flk ?_;simp (disch:=omega) only[k2,k3,zu1,zv1,go_sem])|(apply qa;exact rvk;simp only[go_sem])
  exact VLe.tup ⟨qU,qi,trivial⟩
 have k3:((x.sig.length:Int)<=s)=False:=eqf g3;rw[ine (λe=>e.elim g2 g3)]at hE;have c2:=λl'=>Pl x l d (h++l') hz hu (hp.app l') hg.app hca hd ht
 unfold IJ at c2
 by_cases g4:yo x l d=0
 case neg=>
  have k4:(yo x l d=0)=False:=eqf g4;simp only[ine g4]at c2;rw[ipo g4]at hE;rw[hE,ine g4];unfold coC at c1 c2;refine acO wG ?_;simp (disch:=omega) only[fM,coC,go_sem]
  repeat' first|((first|refine cA (c1 _) ?_ ?_|refine cA (c2 _) ?_ ?_);exact flk;simp (disch:=omega) only[k2,k3,k4,zu1,zv1,go_sem])|(apply qa;exact rvk;simp only[go_sem])|with_reducible apply aiA|exact clz|fail
  exact VLe.tup ⟨qU,qi,trivial⟩
 rw[ine (by simpa using g4)]at hE;simp only[g4,if_true]at c2;rw[hE];unfold coC at c1 c2;refine acO wG ?_;simp (disch:=omega) only[fM,coC,go_sem]
 repeat' first|((first|refine cA (c1 _) ?_ ?_|refine cA (c2 _) ?_ ?_);exact flk;simp (disch:=omega) only[k2,k3,zu1,zv1,zu,zv,go_sem])|with_reducible apply aiA|exact clz|fail
 have hlp:0<l.length:=List.length_pos_iff.2 hl0;refine qE (TN (j:=h.length+2) (k:=h.length+13) (w:=0) l.length (-1) (List.drop 1 (zQ [.int .i64 0] 1)) ?j1 ?j2 hlp hu.n) (by exact flk) ?_
 case j1=>simp only[go_sem]
 case j2=>simp only[go_sem]
 have zi: ∀g l,valL g .len [qx l]= .int .i64 l.length:=λ_ _=>rfl
 have zj: ∀g l,okL g .len [qx l]=True:=λ_ _=>eqt trivial
 have ePL:(plG x l d d.length).length=d.length:=by unfold plG;rw[List.length_map,List.take_length]
 simp (disch:=omega) only[zi,zj,ePL,go_sem];rw[<-Is x l d];have hpl: ∀i,i<d.length->ai x l (d.getD i default)=0:=by
  have:=g4
  unfold yo at this;split at this
  ·cases this
  ·intro i hi;exact jr.1 this i hi
 refine qr (T:=λi:Nat=>qY 154 [(1,qZ l),(2,vI d),(3,.int .i64 s),(4,.op h.length 1 0),(13,.osl (h.length+13) 1 1 0 l.length),(55,.sl d.length λi=> [.int .i64 ((plG x l d d.length).getD i 0)]),(56,.int .i64 d.length),(57,.int .i64 i)])
  (H:=λi=>h++ [.mem 1 26 [.str x.sec,strs x.sig,qm x.tok,qn x.col],.emp 1,.emp 2,.emp 0,.emp 0,.emp 0,.emp 0,.emp 0,.emp 0,.emp 0,.emp 0,.emp 0,.emp 0,.mem 1 3 (qM (xe x l d i)),.emp 0,.emp 0])
  (inv:=λi=>i<=d.length) (m:=λi=>d.length-i) 0 (nzl _) (Wk.temps ?_) ?_
 ·(simp only[go_sem,qg,qc,qb,qf];try (repeat' first|(with_reducible apply aiA)|(apply qe;omega)|(apply qd;rfl)|exact qi))
  have eI:qx (plG x l d d.length)= .sl d.length λi=> [.int .i64 ((plG x l d d.length).getD i 0)]:=by unfold qx;rw[ePL]
  rw[eI];exact qi
 rintro i i1 K hK;have hll:=lG x l d i;have hlc:=jg (xe x l d i)
 by_cases hi:i<d.length
 ·have q1:((i:Int)<d.length)=True:=eqt oma;have q2:(0<=(i:Int))=True:=eqt oma;have e0:=hpl i hi;obtain⟨_,_,_,_,p5,_⟩:=xJ e0;obtain⟨k,hk⟩: ∃k:Nat,vk x l (d.getD i default)=k:=⟨(vk x l (d.getD i default)).toNat,oma⟩
  have hkl:k<l.length:=by
   have:=(xA l (kZ x (zJ x (d.getD i default).sig).toNat (d.getD i default).tok)).2
   have h2:fnU l (kZ x (zJ x (d.getD i default).sig).toNat (d.getD i default).tok)=k:=hk;omega
  have q3:((k:Int)<l.length)=True:=eqt oma;have q4:(0<=(k:Int))=True:=eqt oma;have eA:=IG (x:=x) (l:=l) hi;rw[hk]at eA;have hst:=tX (n:=i) hkl hk;simp (disch:=omega) only[q1,q2,q3,q4,eA,hlc,hll,go_sem]
  repeat' first|with_reducible apply aiA|exact clz|fail
  have eB:List.take k (qM (xe x l d i))++ [AV.int .i64 (i:Int)]++List.drop (k+1) (qM (xe x l d i))=qM (xe x l d (i+1)):=by
   rw[hst];unfold qM;rw[List.set_eq_take_append_cons_drop,ipo (by rw[hll];exact hkl)];simp[List.map_append,List.map_take,List.map_drop]
  rw[eB];refine hK _ _ (i+1) hi oma (Wk.temps ?_)
  (simp only[go_sem,qg,qc,qb,qf];try exact tT)
 ·have q1:((i:Int)<d.length)=False:=eqf oma;obtain rfl:i=d.length:=by omega
  simp (disch:=omega) only[q1,go_sem];refine⟨_,_,Wk.ownNil (j:=h.length+3) (i:=0) (k:=h.length+15) (v:=1) (ty:=45) (cs:= [.nl]) (ve:=0) (sz:=7) ?m1 rfl ?m2,?_⟩
  case m1=>simp only[go_sem]
  case m2=>simp only[go_sem]
  have s1:=λh=>QM h l
  have eP:=yK l;simp (disch:=omega) only[List.set_cons_zero,go_sem];have hun:=hu.n;have bne5:(h.length+14 !=h.length+5)=true:=by simp
  have zc: ∀g l,valL g .len [qn l]= .int .i64 l.length:=λ_ _=>rfl
  have zd: ∀g l,okL g .len [qn l]=True:=λ_ _=>eqt trivial
  refine jX ?T ?H ?h1 ?h2
  case h1=>
   simp (disch:=omega) only[List.set_cons_zero,zc,zd,go_sem]
   repeat' first|(with_reducible apply aiA)|(refine qE (SI l _ (h.length+14) (by simp only[go_sem]) hl0 hu.n) (by exact flk) ?_;simp (disch:=omega) only[List.set_cons_zero,eP,zc,zd,go_sem])
   all_goals first
    |omega
    |rfl
    |exact bne5
  case h2=>
  simp (disch:=omega) only[go_sem];obtain⟨S,hS⟩: ∃S:Nat,s=S:=⟨s.toNat,oma⟩
  subst hS;rw[itn]at hN ⊢;have hSl:S<x.sig.length:=by omega
  have eTk:List.take (l.length*3) (wq l)=wq l:=ltl oma;rw[eTk];obtain⟨MC,hMC⟩:=Qt (wq l++ [AV.int .i64 x.col.length,.int .i64 x.col.length,.nl])
  have hMl:MC.length=(l.length+1)*3:=by rw[hMC];simp[eP];omega
  have eM1: ∀k,k<l.length->List.take 3 (List.drop (k*3) MC)=unC (l.getD k default):=λk hk=>by
   rw[hMC,List.drop_append_of_le_length oma,List.take_append_of_le_length (by rw[List.length_drop];omega)];exact mq hk
  have eM2:List.take 3 (List.drop (l.length*3) MC)= [AV.int .i64 x.col.length,.int .i64 x.col.length,.nl]:=by
   rw[hMC,List.drop_append,List.drop_eq_nil_of_le oma,lna,eP,Nat.sub_self];rfl
  rw[<-hMC];obtain⟨O5,hO5⟩:=Qt (AObj.mem 1 39 (AV.int .i64 x.col.length:: .int .i64 x.col.length:: .nl::List.drop 3 (zQ [.int .i64 0,.int .i64 0,.nl] 1)))
  rw[<-hO5];obtain⟨LST,hLST⟩: ∃L,L=AObj.mem 1 3 (qM (xe x l d d.length)):=⟨_,rfl⟩
  have hll:=lG x l d d.length;have hlc:=jg (xe x l d d.length);obtain⟨X0,hX0⟩:=Qt (AObj.mem 1 26 [.str x.sec,strs x.sig,qm x.tok,qn x.col])
  have lX0: ∀n,lowO n X0:=by
   intro n;rw[hX0];intro c hc;simp at hc;rcases hc with rfl|rfl|rfl|rfl<;>rfl
  refine qr (T:=λi:EsS=>qY 154 [(1,qZ l),(2,vI d),(3,.int .i64 (S:Int)),(4,.op h.length 1 0),(13,.osl (h.length+13) 1 1 0 l.length),(16,.op (h.length+3) 1 0),(17,.op (h.length+4) 1 0),(18,.int .i64 (nxT x l i.k:Int)),(78,.osl (h.length+14) 2 3 0 (l.length+1)),(79,.int .i64 ((l.length+1:Nat):Int)),(80,.int .i64 i.k)])
   (H:=λi=>h++ [.mem 1 26 [.str x.sec,strs x.sig,qm x.tok,qn x.col],.emp 1,.emp 2,.mem 1 45 [.osl (h.length+15) i.vb 7 0 (rwK x l d S i.k).length],.mem 1 135 [.fn (.func 69) [] [.op (h.length+3) 1 0]],O5,.emp 0,i.O7,i.O8,i.O9,i.O10,i.O11,i.O12,.mem 1 3 (qM (xe x l d d.length)),.mem 2 39 MC,ze i.vb 133 (jv (bsW (rwK x l d S i.k)))])
   (inv:=λi=>i.k<=l.length+1∧ ∀O∈ [i.O7,i.O8,i.O9,i.O10,i.O11,i.O12],qG [O] 0=true∧ ∀n,lowO n O) (m:=λi=>l.length+1-i.k) ⟨0,0,.emp 0,.emp 0,.emp 0,.emp 0,.emp 0,.emp 0⟩ ⟨nzl _,λO hO=>by
    simp at hO;subst hO;exact⟨rfl,λ_=>trivial⟩⟩ (Wk.temps ?_) ?_
  ·(simp only[go_sem,qg,qc,qb,qf];try (repeat' first|(with_reducible apply aiA)|(apply qe;omega)|(apply qd;rfl)|exact qi))
   done
  rintro⟨k,vb,O7,O8,O9,O10,O11,O12⟩ ⟨i1,i2⟩ K hK;simp only at i1 i2 hK;obtain⟨s7,l7⟩:=i2 O7 (by simp);obtain⟨s8,l8⟩:=i2 O8 (by simp);obtain⟨s9,l9⟩:=i2 O9 (by simp);obtain⟨s10,l10⟩:=i2 O10 (by simp);obtain⟨s11,l11⟩:=i2 O11 (by simp);obtain⟨s12,l12⟩:=i2 O12 (by simp);have s7': ∀m,qG (O7::m) 0=true:=λ_=>s7
  have s8': ∀m,qG (O8::m) 0=true:=λ_=>s8
  by_cases hk:k<=l.length
  case neg=>
   have q1:((k:Int)<((l.length+1:Nat):Int))=False:=eqf oma;have eR:rwK x l d S k=rwA x l d S:=by unfold rwK;rw[ine hk]
   rw[eR]
   by_cases g5:1024<(rwA x l d S).length
   ·have q5:((1024:Int)<(rwA x l d S).length)=True:=eqt oma;simp only[ipo g5];simp (disch:=omega) only[q1,q5,go_sem]
    repeat' first|(apply qa;exact rvk;simp only[go_sem])|with_reducible apply aiA|exact clz|fail
    exact VLe.tup ⟨qU,qi,trivial⟩
   ·have q5:((1024:Int)<(rwA x l d S).length)=False:=eqf oma;simp only[ine g5];simp (disch:=omega) only[q1,q5,go_sem]
    repeat' first|(apply qa;exact rvk;simp only[go_sem])|with_reducible apply aiA|exact clz|fail
    exact VLe.tup ⟨cH (jU _).symm,qi,trivial⟩
  have q1:((k:Int)<((l.length+1:Nat):Int))=True:=eqt oma;have q2:(0<=(k:Int))=True:=eqt oma;have q3:(k*3+3<=MC.length)=True:=eqt oma;have eR:rwK x l d S k=rwL x l d S k:=by unfold rwK;rw[ipo hk]
  have eN:nxT x l k=zf l k:=by unfold nxT;rw[ipo hk]
  rw[eR,eN];obtain⟨f,t',RV,eM,a5,a6,lRV,hA,hB⟩: ∃(f t':Nat) (RV:AV),List.take 3 (List.drop (k*3) MC)= [.int .i64 (f:Int),.int .i64 (t':Int),RV]∧zf l k<=f∧f<=x.col.length∧(∀n,qR n RV=true)∧(k<l.length->f=frN l k∧t'=toN l k∧RV=jM (l.getD k default).rds)∧(k=l.length->f=x.col.length∧t'=x.col.length):=by
   by_cases hkl:k<l.length
   ·obtain⟨a1,a2,a3,a4,_⟩:=jz hus hkl;have eM:=eM1 k hkl;unfold unC at eM;rw[a1,a2]at eM;exact⟨frN l k,toN l k,_,eM,aj hus hkl,oma,λ_=>rfl,λ_=>⟨rfl,rfl,rfl⟩,λe=>by omega⟩
   ·obtain rfl:k=l.length:=by omega
    exact⟨x.col.length,x.col.length,.nl,eM2,vX hus (nlr _),nlr _,λ_=>rfl,λe=>by omega,λ_=>⟨rfl,rfl⟩⟩
  have c3:=λh=>Lp x (zf l k) f S h
  have hit:=itS x S (zf l k) f hz ho hSl a6 a5;have hpF:=vV ho hSl (f:=zf l k) (d:=f-zf l k) oma;obtain⟨ps,hps⟩:=Qt (spk x S (zf l k) (f-zf l k))
  have hxl:(spX x S (zf l k) (f-zf l k))=ps.map λp=> [.agg (pcC p)]:=by unfold spX;rw[hps]
  rw[hxl]at hit;rw[<-hps]at hpF;unfold coC at c3 hit;simp (disch:=omega) only[q1,q2,q3,eM,s7',s8',go_sem]
  repeat' first|(refine cA (c3 _) flk ?_;simp (disch:=omega) only[go_sem])
  obtain⟨L0,hL0⟩:=Qt (rwL x l d S k)
  have hLF: ∀r∈L0,PcF r.p:=by rw[hL0];exact gS ho hus hSl hpl hk
  have hLn:(L0++rwM ps (-1) (-1)).length<=1000000000:=by
   refine Nat.le_trans ?_ hN
   by_cases hkl:k<l.length
   ·obtain⟨b1,_⟩:=hA hkl;refine Nat.le_trans ?_ (Qj (show k+1<=l.length by omega));rw[hL0,hps,b1]
    conv=>rhs;unfold rwL
    rw[lap,lap,lap];show _<=_+((rwM _ _ _).length+_);omega
   ·obtain⟨b1,_⟩:=hB oma;have hke:k=l.length:=by omega
    rw[hL0,hps,b1,hke];exact nlr _
  rw[<-hL0];obtain⟨P7,hP7⟩:=Qt (AObj.mem (qo (some O7)+1) 3 [.int .i64 (k:Int)])
  obtain⟨P8,hP8⟩:=Qt (AObj.mem (qo (some O8)+1) 39 [.int .i64 (f:Int),.int .i64 (t':Int),RV])
  have hP7l:qG [P7] 0=true∧ ∀n,lowO n P7:=by
   rw[hP7];refine⟨rfl,λn c hc=> ?_⟩;rw[List.mem_singleton]at hc;subst hc;rfl
  have hP8l:qG [P8] 0=true∧ ∀n,lowO n P8:=by
   rw[hP8];refine⟨rfl,λn c hc=> ?_⟩;simp only[List.mem_cons,List.not_mem_nil,or_false]at hc;rcases hc with rfl|rfl|rfl
   ·rfl
   ·rfl
   ·exact lRV n
  have cP7: ∀m,cellsOf (P7::m) 0 (qo (some O7)+1)=some [.int .i64 (k:Int)]:=λm=>by rw[hP7];simp only[go_sem]
  rw[<-hP7,<-hP8];have lP: ∀L:List Rw,∀v n,lowO n (ze v 133 (jv (bsW L))):=λL v n=>jd (yM _ n)
  have hLow: ∀(L M:List Rw) (v w:Nat) O A,(∀n,lowO n A)->LowI (h++ [.mem 1 26 [.str x.sec,strs x.sig,qm x.tok,qn x.col],.emp 1,.emp 2,.mem 1 45 [.osl (h.length+15) w 7 0 M.length],.mem 1 135 [.fn (.func 69) [] [.op (h.length+3) 1 0]],O5,.emp 0,P7,P8,O,O10,O11,O12,.mem 1 3 (qM (xe x l d d.length)),.mem 2 39 MC,ze w 133 (jv (bsW M))])
    (h++ [.mem 1 26 [.str x.sec,strs x.sig,qm x.tok,qn x.col],.emp 1,.emp 2,.mem 1 45 [.osl (h.length+15) v 7 0 L.length],.mem 1 135 [.fn (.func 69) [] [.op (h.length+3) 1 0]],O5,.emp 0,P7,P8,A,O10,O11,O12,.mem 1 3 (qM (xe x l d d.length)),.mem 2 39 MC,ze v 133 (jv (bsW L))]):=λL M v w O A lA=>by
   refine⟨by simp,λo ho=> ?_⟩;rcases List.mem_append.1 ho with h1|h1
   ·exact .inl (List.mem_append_left _ h1)
   ·simp only[List.mem_cons,List.not_mem_nil,or_false]at h1;rcases h1 with rfl|rfl|rfl|rfl|rfl|rfl|rfl|rfl|rfl|rfl|rfl|rfl|rfl|rfl|rfl|rfl
    ·left;simp
    ·left;simp
    ·left;simp
    ·right;refine⟨λc hc=> ?_,λc hc=> ?_⟩<;>
     ·rw[List.mem_singleton]at hc;subst hc;simp[qR]
      try omega
    ·left;simp
    ·left;simp
    ·left;simp
    ·left;simp
    ·left;simp
    ·right;exact⟨lA _,lA _⟩
    ·left;simp
    ·left;simp
    ·left;simp
    ·left;simp
    ·left;simp
    ·right;exact⟨lP _ _ _,lP _ _ _⟩
  refine zn hit (λa ha=> ?_)
   (S:=λi hh=> ∃A,qG [A] 0=true∧(∀n,lowO n A)∧hh=h++ [.mem 1 26 [.str x.sec,strs x.sig,qm x.tok,qn x.col],.emp 1,.emp 2,.mem 1 45 [.osl (h.length+15) (vb+i) 7 0 (L0++rwM (ps.take i) (-1) (-1)).length],.mem 1 135 [.fn (.func 69) [] [.op (h.length+3) 1 0]],O5,.emp 0,P7,P8,A,O10,O11,O12,.mem 1 3 (qM (xe x l d d.length)),.mem 2 39 MC,ze (vb+i) 133 (jv (bsW (L0++rwM (ps.take i) (-1) (-1))))]) (E:=λ_ _=>False) ?_ ?_ ?_ ?_ ?_ ?_ ?_
  ·obtain⟨c,_,rfl⟩:=List.mem_map.1 ha;rfl
  ·rintro i hh ⟨A,_,lA,rfl⟩;exact hLow _ _ _ _ _ _ lA
  ·intro s hh hf;exact hf.elim
  ·exact⟨O9,s9,l9,by simp[rwM]⟩
  ·simp[qR,qR.lowVs]
   repeat' apply aiA
   all_goals first|rfl|omega|exact lRV _
  ·rintro i hh tl LI TS hi ⟨A,sA,lA,rfl⟩ hlen K1 K2 hK1 hN1 hR1 hX1;have hi':i<ps.length:=by rw[List.length_map]at hi;exact hi
   rw[List.getElem_map];have sA': ∀m,qG (A::m) 0=true:=λ_=>sA
   have hS:L0++rwM (ps.take (i+1)) (-1) (-1)=(L0++rwM (ps.take i) (-1) (-1))++ [⟨ps.getD i default,-1,-1⟩]:=by
    unfold rwM;rw[List.take_add_one,zg hi',List.map_append,gdqA,zg hi',List.append_assoc];rfl
   have eG:ps[i]=ps.getD i default:=by rw[gdqA,zg hi'];rfl
   rw[eG];have hpm:ps.getD i default∈ps:=zI hi';obtain⟨p,hp'⟩:=Qt (ps.getD i default)
   rw[<-hp']at hS hpm ⊢;obtain⟨M,hM⟩:=Qt (L0++rwM (ps.take i) (-1) (-1))
   have hMF: ∀r∈M,PcF r.p:=λr hr=>by
    rw[hM]at hr;rcases List.mem_append.1 hr with hr|hr
    ·exact hLF r hr
    ·exact hpF _ (List.mem_of_mem_take (jh.1 hr).1)
   have hMn:M.length<=1000000000:=by
    rw[hM,lap,jD,List.length_take];rw[lap,jD]at hLn;omega
   rw[<-hM]at hS ⊢;simp only[ke,List.append_assoc,lca,lna];simp (disch:=omega) only[sA',pcC,tkC,go_sem];refine hK1 _ _ (h++ [.mem 1 26 [.str x.sec,strs x.sig,qm x.tok,qn x.col],.emp 1,.emp 2,.mem 1 45 [.osl (h.length+15) (vb+i) 7 0 M.length],.mem 1 135 [.fn (.func 69) [] [.op (h.length+3) 1 0]],O5,.emp 0,P7,P8,(.mem (qo (some A)+1) 131 (pcC p)),O10,O11,O12,.mem 1 3 (qM (xe x l d d.length)),.mem 2 39 MC,ze (vb+i) 133 (jv (bsW M))]) ?_ ?_ ?_
   ·simp[pcC,tkC]
   ·simp
   ·simp only[List.append_assoc,lca,lna];simp (disch:=omega) only[pcC,tkC,go_sem]
    repeat' first|with_reducible apply aiA|exact clz|fail
    refine kl (Dy (a:=h.length+3) (b:=h.length+15) (c:=h.length) (va:=1) (vb:=vb+i) (Z:= .mem 1 26 [.str x.sec,strs x.sig,qm x.tok,qn x.col]) ⟨by simp,by simp,by simp,oma,oma,oma⟩ M p (-1) (-1) (by simp only[go_sem]) (by simp only[go_sem]) (by simp only[go_sem]) (by rw[<-hX0];exact lX0) (hpF p hpm) hMn hMF) ?_;simp (disch:=omega) only[go_sem];refine hN1 _ _ (h++ [.mem 1 26 [.str x.sec,strs x.sig,qm x.tok,qn x.col],.emp 1,.emp 2,.mem 1 45 [.osl (h.length+15) (vb+(i+1)) 7 0 (M++ [(⟨p,-1,-1⟩:Rw)]).length],.mem 1 135 [.fn (.func 69) [] [.op (h.length+3) 1 0]],O5,.emp 0,P7,P8,(.mem (qo (some A)+1) 131 (pcC p)),O10,O11,O12,.mem 1 3 (qM (xe x l d d.length)),.mem 2 39 MC,ze (vb+(i+1)) 133 (jv (bsW (M++ [(⟨p,-1,-1⟩:Rw)])))]) ?_ ?_ ⟨_,rfl,?_,by rw[hS]⟩
    ·simp[pcC,tkC,Nat.add_assoc]
    ·simp
    ·intro n c hc;simp[pcC,tkC]at hc;rcases hc with rfl|rfl|rfl|rfl|rfl|rfl|rfl<;>rfl
  ·rintro hh ⟨A,sA,lA,rfl⟩;rw[List.length_map,List.take_length];obtain⟨L1,hL1⟩:=Qt (L0++rwM ps (-1) (-1))
   rw[<-hL1]
   by_cases hkl:k<l.length
   case neg=>
    have hke:k=l.length:=by omega
    obtain⟨b1,b2⟩:=hB hke;have q4:((k:Int)=l.length)=True:=eqt oma;rw[hP7,hP8];simp (disch:=omega) only[q4,zu,zv,go_sem]
    repeat' first|with_reducible apply aiA|exact clz|fail
    rw[<-hP7,<-hP8];have e1:rwK x l d S (k+1)=L1:=by
     unfold rwK;rw[ine oma,hL1,hL0,hps,b1,hke];rfl
    have e2:nxT x l (k+1)=t':=by unfold nxT;rw[ine oma,b2]
    refine hK _ _ ⟨k+1,vb+ps.length,P7,P8,A,O10,O11,O12⟩ ⟨by simp only;omega,λO hO=> ?_⟩ (by simp only;omega) ?_
    ·simp only[List.mem_cons,List.not_mem_nil,or_false]at hO;rcases hO with rfl|rfl|rfl|rfl|rfl|rfl
     ·exact hP7l
     ·exact hP8l
     ·exact⟨sA,lA⟩
     ·exact⟨s10,l10⟩
     ·exact⟨s11,l11⟩
     ·exact⟨s12,l12⟩
    ·simp only[e1,e2];refine Wk.temps ?_
     (simp only[go_sem,qg,qc,qb,qf];try exact tT)
   obtain⟨b1,b2,b3⟩:=hA hkl;have q4:((k:Int)=l.length)=False:=eqf oma;have q5:((k:Int)<l.length)=True:=eqt oma;have q6:(k<l.length)=True:=eqt hkl;have eLs:(qM (xe x l d d.length))[k]? =some (.int .i64 (wl x l d k d.length)):=by
    unfold qM
    have:=AN (x:=x) (d:=d) (n:=d.length) hkl
    rw[List.getElem?_map,zg (by rw[hll];exact hkl)];rw[gdqA,zg (by rw[hll];exact hkl)]at this;rw[<-this];rfl
   obtain⟨D,hD⟩:=Qt (wl x l d k d.length)
   rw[<-hD]at eLs;rw[hP7,hP8]
   by_cases g6:D<0
   ·have q7:(D<0)=True:=eqt g6;have c4:=λh=>Lp x f t' S h
    unfold coC at c4;simp (disch:=omega) only[q2,q4,q5,q6,q7,hlc,hll,eLs,zu,zv,go_sem]
    repeat' first|(refine cA (c4 _) flk ?_;simp (disch:=omega) only[go_sem])|with_reducible apply aiA|exact clz|fail
    rw[<-hP7,<-hP8];obtain⟨A0,hA0⟩:=Qt A
    rw[<-hA0];obtain⟨vc,hvc⟩:=Qt (vb+ps.length)
    rw[<-hvc];obtain⟨_,_,a3,a4,_⟩:=jz hus hkl;have hit2:=itS x S f t' hz ho hSl oma oma;have hpF2:=vV ho hSl (f:=f) (d:=t'-f) oma;obtain⟨qs,hqs⟩:=Qt (spk x S f (t'-f))
    have hxl2:(spX x S f (t'-f))=qs.map λp=> [.agg (pcC p)]:=by unfold spX;rw[hqs]
    rw[hxl2]at hit2;rw[<-hqs]at hpF2;unfold coC at hit2;have eR1:rwK x l d S (k+1)=L1++rwM qs (k:Int) (-1):=by
     unfold rwK;rw[ipo oma];show rwL x l d S k++(rwC x S (zf l k) (frN l k)++rwU x l d S k)=_;unfold rwU;rw[ipo (by rw[<-hD];exact g6),hL1,hL0,hps,hqs,b1,b2,List.append_assoc];rfl
    have hLF2: ∀r∈L1,PcF r.p:=λr hr=>by
     rw[hL1]at hr;rcases List.mem_append.1 hr with hr|hr
     ·exact hLF r hr
     ·exact hpF _ (jh.1 hr).1
    have hLn2:(L1++rwM qs (k:Int) (-1)).length<=1000000000:=by
     rw[<-eR1];unfold rwK;rw[ipo oma];exact Nat.le_trans (Qj (show k+1<=l.length by omega)) hN
    have hLow2: ∀(L M:List Rw) (v w:Nat) O A,(∀n,lowO n A)->LowI (h++ [.mem 1 26 [.str x.sec,strs x.sig,qm x.tok,qn x.col],.emp 1,.emp 2,.mem 1 45 [.osl (h.length+15) w 7 0 M.length],.mem 1 135 [.fn (.func 69) [] [.op (h.length+3) 1 0]],O5,.emp 0,P7,P8,A0,O,O11,O12,.mem 1 3 (qM (xe x l d d.length)),.mem 2 39 MC,ze w 133 (jv (bsW M))])
      (h++ [.mem 1 26 [.str x.sec,strs x.sig,qm x.tok,qn x.col],.emp 1,.emp 2,.mem 1 45 [.osl (h.length+15) v 7 0 L.length],.mem 1 135 [.fn (.func 69) [] [.op (h.length+3) 1 0]],O5,.emp 0,P7,P8,A0,A,O11,O12,.mem 1 3 (qM (xe x l d d.length)),.mem 2 39 MC,ze v 133 (jv (bsW L))]):=λL M v w O A lA=>by
     refine⟨by simp,λo ho=> ?_⟩;rcases List.mem_append.1 ho with h1|h1
     ·exact .inl (List.mem_append_left _ h1)
     ·simp only[List.mem_cons,List.not_mem_nil,or_false]at h1;rcases h1 with rfl|rfl|rfl|rfl|rfl|rfl|rfl|rfl|rfl|rfl|rfl|rfl|rfl|rfl|rfl|rfl
      ·left;simp
      ·left;simp
      ·left;simp
      ·right;refine⟨λc hc=> ?_,λc hc=> ?_⟩<;>
       ·rw[List.mem_singleton]at hc;subst hc;simp[qR]
        try omega
      ·left;simp
      ·left;simp
      ·left;simp
      ·left;simp
      ·left;simp
      ·left;simp
      ·right;exact⟨lA _,lA _⟩
      ·left;simp
      ·left;simp
      ·left;simp
      ·left;simp
      ·right;exact⟨lP _ _ _,lP _ _ _⟩
    refine zn hit2 (λa ha=> ?_)
     (S:=λi hh=> ∃A,qG [A] 0=true∧(∀n,lowO n A)∧hh=h++ [.mem 1 26 [.str x.sec,strs x.sig,qm x.tok,qn x.col],.emp 1,.emp 2,.mem 1 45 [.osl (h.length+15) (vc+i) 7 0 (L1++rwM (qs.take i) (k:Int) (-1)).length],.mem 1 135 [.fn (.func 69) [] [.op (h.length+3) 1 0]],O5,.emp 0,P7,P8,A0,A,O11,O12,.mem 1 3 (qM (xe x l d d.length)),.mem 2 39 MC,ze (vc+i) 133 (jv (bsW (L1++rwM (qs.take i) (k:Int) (-1))))]) (E:=λ_ _=>False) ?_ ?_ ?_ ?_ ?_ ?_ ?_
    ·obtain⟨c,_,rfl⟩:=List.mem_map.1 ha;rfl
    ·rintro i hh ⟨A,_,lA,rfl⟩;exact hLow2 _ _ _ _ _ _ lA
    ·intro s hh hf;exact hf.elim
    ·exact⟨O10,s10,l10,by simp[rwM]⟩
    ·simp[qR,qR.lowVs]
     repeat' apply aiA
     all_goals first|rfl|omega|exact lRV _
    ·rintro i hh tl LI TS hi ⟨A,sA,lA,rfl⟩ hlen K1 K2 hK1 hN1 hR1 hX1;have hi':i<qs.length:=by rw[List.length_map]at hi;exact hi
     rw[List.getElem_map];have sA': ∀m,qG (A::m) 0=true:=λ_=>sA
     have hS:L1++rwM (qs.take (i+1)) (k:Int) (-1)=(L1++rwM (qs.take i) (k:Int) (-1))++ [⟨qs.getD i default,(k:Int),-1⟩]:=by
      unfold rwM;rw[List.take_add_one,zg hi',List.map_append,gdqA,zg hi',List.append_assoc];rfl
     have eG:qs[i]=qs.getD i default:=by rw[gdqA,zg hi'];rfl
     rw[eG];have hpm:qs.getD i default∈qs:=zI hi';obtain⟨p,hp'⟩:=Qt (qs.getD i default)
     rw[<-hp']at hS hpm ⊢;obtain⟨M,hM⟩:=Qt (L1++rwM (qs.take i) (k:Int) (-1))
     have hMF: ∀r∈M,PcF r.p:=λr hr=>by
      rw[hM]at hr;rcases List.mem_append.1 hr with hr|hr
      ·exact hLF2 r hr
      ·exact hpF2 _ (List.mem_of_mem_take (jh.1 hr).1)
     have hMn:M.length<=1000000000:=by
      rw[hM,lap,jD,List.length_take];rw[lap,jD]at hLn2;omega
     rw[<-hM]at hS ⊢;simp only[ke,List.append_assoc,lca,lna];simp (disch:=omega) only[sA',pcC,tkC,go_sem];refine hK1 _ _ (h++ [.mem 1 26 [.str x.sec,strs x.sig,qm x.tok,qn x.col],.emp 1,.emp 2,.mem 1 45 [.osl (h.length+15) (vc+i) 7 0 M.length],.mem 1 135 [.fn (.func 69) [] [.op (h.length+3) 1 0]],O5,.emp 0,P7,P8,A0,(.mem (qo (some A)+1) 131 (pcC p)),O11,O12,.mem 1 3 (qM (xe x l d d.length)),.mem 2 39 MC,ze (vc+i) 133 (jv (bsW M))]) ?_ ?_ ?_
     ·simp[pcC,tkC]
     ·simp
     ·simp only[List.append_assoc,lca,lna];simp (disch:=omega) only[pcC,tkC,cP7,go_sem]
      repeat' first|with_reducible apply aiA|exact clz|fail
      refine kl (Dy (a:=h.length+3) (b:=h.length+15) (c:=h.length) (va:=1) (vb:=vc+i) (Z:= .mem 1 26 [.str x.sec,strs x.sig,qm x.tok,qn x.col]) ⟨by simp,by simp,by simp,oma,oma,oma⟩ M p (k:Int) (-1) (by simp only[go_sem]) (by simp only[go_sem]) (by simp only[go_sem]) (by rw[<-hX0];exact lX0) (hpF2 p hpm) hMn hMF) ?_;simp (disch:=omega) only[go_sem];refine hN1 _ _ (h++ [.mem 1 26 [.str x.sec,strs x.sig,qm x.tok,qn x.col],.emp 1,.emp 2,.mem 1 45 [.osl (h.length+15) (vc+(i+1)) 7 0 (M++ [(⟨p,(k:Int),-1⟩:Rw)]).length],.mem 1 135 [.fn (.func 69) [] [.op (h.length+3) 1 0]],O5,.emp 0,P7,P8,A0,(.mem (qo (some A)+1) 131 (pcC p)),O11,O12,.mem 1 3 (qM (xe x l d d.length)),.mem 2 39 MC,ze (vc+(i+1)) 133 (jv (bsW (M++ [(⟨p,(k:Int),-1⟩:Rw)])))]) ?_ ?_ ⟨_,rfl,?_,by rw[hS]⟩
      ·simp[pcC,tkC,Nat.add_assoc]
      ·simp
      ·intro n c hc;simp[pcC,tkC]at hc;rcases hc with rfl|rfl|rfl|rfl|rfl|rfl|rfl<;>rfl
    ·rintro hh ⟨B,sB,lB,rfl⟩;rw[List.length_map,List.take_length];simp (disch:=omega) only[go_sem];have e2:nxT x l (k+1)=t':=by
      unfold nxT;rw[ipo oma,b2];unfold zf;rw[ine oma,Nat.add_sub_cancel]
     refine hK _ _ ⟨k+1,vc+qs.length,P7,P8,A0,B,O11,O12⟩ ⟨by simp only;omega,λO hO=> ?_⟩ (by simp only;omega) ?_
     ·simp only[List.mem_cons,List.not_mem_nil,or_false]at hO;rcases hO with rfl|rfl|rfl|rfl|rfl|rfl
      ·exact hP7l
      ·exact hP8l
      ·rw[hA0];exact⟨sA,lA⟩
      ·exact⟨sB,lB⟩
      ·exact⟨s11,l11⟩
      ·exact⟨s12,l12⟩
     ·simp only[eR1,e2];refine Wk.temps ?_
      (simp only[go_sem,qg,qc,qb,qf];try exact tT)
    ·intro e hh hf;exact hf.elim
   ·have q7:(D<0)=False:=eqf g6;obtain⟨j,hj⟩: ∃j:Nat,D=j:=⟨D.toNat,oma⟩
    have hjd:j<d.length:=by
     have:=(xd x l d k d.length).2
     omega
    rw[hj]at eLs hD q7;have q8:(0<=(j:Int))=True:=eqt oma;have q9:((j:Int)<d.length)=True:=eqt oma;have s11': ∀m,qG (O11::m) 0=true:=λ_=>s11
    have e0:=hpl j hjd;have eU:vk x l (d.getD j default)=k:=tW (n:=d.length) hD.symm;obtain⟨o,ho'⟩:=Qt (d.getD j default)
    have eo:=ho'.symm;rw[eo]at e0 eU;have hot:o.txt.length<=1000:=ht o (by rw[ho'];exact zI hjd);obtain⟨p1,p2,p3,p4,p5,p6⟩:=xJ e0;have c5:=λh=>Tq h
    have zp: ∀g l,valL g .len [dw l]= .int .i64 l.length:=λ_ _=>rfl
    have zq: ∀g l,okL g .len [dw l]=True:=λ_ _=>eqt trivial
    have k7:(0<=o.kind)=True:=eqt oma;have k8:(o.kind<4)=True:=eqt oma;obtain⟨_,_,a3,a4,_⟩:=jz hus hkl;obtain⟨fid,qs,eIx,c6,eqs,hpF2⟩: ∃(fid:Nat) (qs:List Pc),[AV.nilfn,AV.fn (.func 147) [] [],AV.fn (.func 149) [] [],AV.fn (.func 151) [] []][Int.toNat o.kind]?.getD AV.undef= .fn (.func fid) [] []∧(∀l',ACalls Tryz.prog fid [.agg [.str x.sec,strs x.sig,qm x.tok,qn x.col],.agg [.int .i64 (f:Int),.int .i64 (t':Int),RV],.agg [.int .i64 o.kind,.str o.sig,.int .i64 o.tok,.str o.txt]] (h++l') (dw qs) (h++l'))∧qs=gV x l k o∧ ∀p∈qs,PcF p:=by
     obtain⟨a1,a2,_⟩:=jz hus hkl;rcases (show o.kind=1∨o.kind=2∨o.kind=3 by omega)with g7|g7|g7
     ·obtain⟨S1,hS1⟩: ∃S1:Nat,zJ x o.sig=S1:=⟨(zJ x o.sig).toNat,by have:=(mg p4).1;omega⟩
      have hS1l:S1<x.sig.length:=by have:=(mg p4).2.1;omega
      refine⟨147,spk x S1 f (t'-f),by rw[g7];rfl,λl'=> ?_,?_,vV ho hS1l oma⟩
      ·have c6:=Tm x (l.getD k default) o S1 f t' (h++l') hz ho hS1 hS1l (by rw[a1,b1]) (by rw[a2,b2]) oma oma;unfold coC unC dcC at c6;rw[a1,a2,<-b1,<-b2,<-b3]at c6;exact c6
      ·unfold gV;rw[ipo g7,hS1,itn,b1,b2]
     ·obtain⟨r1,r2,r3,r4⟩:=sd p6 g7;refine⟨149,cjP (dy o.txt) (f:Int),by rw[g7];rfl,λl'=> ?_,?_,XE r2⟩
      ·have c6:=Tn x (l.getD k default) o (h++l') hot r4 r1 r2 hg.app;unfold coC unC dcC at c6;rw[a1,a2,<-b1,<-b2,<-b3]at c6;exact c6
      ·unfold gV cjP;rw[ine (by rw[g7];decide),ipo g7,a1,b1]
     ·refine⟨151,[],by rw[g7];rfl,λl'=> ?_,?_,λp hp=>by cases hp⟩
      ·have c6:=To x (l.getD k default) o (h++l');unfold coC unC dcC at c6;rw[a1,a2,<-b1,<-b2,<-b3]at c6;exact c6
      ·unfold gV;rw[ine (by rw[g7];decide),ine (by rw[g7];decide)]
    simp (disch:=omega) only[q2,q4,q5,q6,q7,q8,q9,hlc,hll,eLs,zu,zv,vI,dcC,eo,s11',go_sem]
    repeat' first|with_reducible apply aiA|exact clz|fail
    refine jX ?Ta ?Ha ?h1 ?h2
    case h1=>
     simp (disch:=omega) only[go_sem]
     repeat' first|(refine cU (λ_=>c5 _) flk ?_;simp (disch:=omega) only[k7,go_sem])|with_reducible apply aiA
     all_goals first
      |omega
      |rfl
      |skip
     rw[eIx];refine rJ (c6 _) (by exact flk) ?_;simp (disch:=omega) only[zp,zq,go_sem]
     repeat' first|with_reducible apply aiA
     all_goals first
      |omega
      |rfl
      |skip
    case h2=>
    rw[<-hP7,<-hP8];obtain⟨P11,hP11⟩:=Qt (AObj.mem (qo (some O11)+1) 65 [.int .i64 o.kind,.str o.sig,.int .i64 o.tok,.str o.txt])
    rw[<-hP11];have eR1:rwK x l d S (k+1)=L1++rwM qs (k:Int) (j:Int):=by
     unfold rwK;rw[ipo oma];show rwL x l d S k++(rwC x S (zf l k) (frN l k)++rwU x l d S k)=_;unfold rwU;rw[<-hD,ine oma,itn,eo,hL1,hL0,hps,eqs,b1,List.append_assoc];rfl
    have hLF2: ∀r∈L1,PcF r.p:=λr hr=>by
     rw[hL1]at hr;rcases List.mem_append.1 hr with hr|hr
     ·exact hLF r hr
     ·exact hpF _ (jh.1 hr).1
    have hLn2:(L1++rwM qs (k:Int) (j:Int)).length<=1000000000:=by
     rw[<-eR1];unfold rwK;rw[ipo oma];exact Nat.le_trans (Qj (show k+1<=l.length by omega)) hN
    simp (disch:=omega) only[go_sem];have hqn:qs.length<=1000000000:=by rw[lap,jD]at hLn2;omega
    refine qr (T:=λi:Nat×AObj=>qY 154 [(1,qZ l),(2,vI d),(3,.int .i64 (S:Int)),(4,.op h.length 1 0),(13,.osl (h.length+13) 1 1 0 l.length),(16,.op (h.length+3) 1 0),(17,.op (h.length+4) 1 0),(18,.int .i64 (t':Int)),(19,.op (h.length+7) (qo (some O7)+1) 0),(78,.osl (h.length+14) 2 3 0 (l.length+1)),(79,.int .i64 ((l.length+1:Nat):Int)),(80,.int .i64 (k:Int)),(111,dw qs),(112,.int .i64 qs.length),(113,.int .i64 i.1)])
     (H:=λi=>h++ [.mem 1 26 [.str x.sec,strs x.sig,qm x.tok,qn x.col],.emp 1,.emp 2,.mem 1 45 [.osl (h.length+15) (vb+ps.length+i.1) 7 0 (L1++rwM (qs.take i.1) (k:Int) (j:Int)).length],.mem 1 135 [.fn (.func 69) [] [.op (h.length+3) 1 0]],O5,.emp 0,P7,P8,A,O10,P11,i.2,.mem 1 3 (qM (xe x l d d.length)),.mem 2 39 MC,ze (vb+ps.length+i.1) 133 (jv (bsW (L1++rwM (qs.take i.1) (k:Int) (j:Int))))])
     (inv:=λi=>i.1<=qs.length∧qG [i.2] 0=true∧ ∀n,lowO n i.2) (m:=λi=>qs.length-i.1) (0,O12) ⟨nzl _,s12,l12⟩ ?_ ?_
    ·simp only[List.take_zero,rwM,List.map_nil,lan,Nat.add_zero];refine Wk.temps ?_
     (simp only[vI,dcC,go_sem,qg,qc,qb,qf];try exact tT)
    rintro⟨i,B⟩ ⟨j1,j2,j3⟩ K3 hK3;simp only at j1 j2 j3 hK3;have j2': ∀m,qG (B::m) 0=true:=λ_=>j2
    by_cases hi:i<qs.length
    ·have w1:((i:Int)<qs.length)=True:=eqt oma;have w2:(0<=(i:Int))=True:=eqt oma;have hS:L1++rwM (qs.take (i+1)) (k:Int) (j:Int)=(L1++rwM (qs.take i) (k:Int) (j:Int))++ [⟨qs.getD i default,(k:Int),(j:Int)⟩]:=by
      unfold rwM;rw[List.take_add_one,zg hi,List.map_append,gdqA,zg hi,List.append_assoc];rfl
     have hpm:qs.getD i default∈qs:=zI hi;obtain⟨p,hp'⟩:=Qt (qs.getD i default)
     have ep:=hp'.symm;rw[<-hp']at hS hpm;obtain⟨M,hM⟩:=Qt (L1++rwM (qs.take i) (k:Int) (j:Int))
     have hMF: ∀r∈M,PcF r.p:=λr hr=>by
      rw[hM]at hr;rcases List.mem_append.1 hr with hr|hr
      ·exact hLF2 r hr
      ·exact hpF2 _ (List.mem_of_mem_take (jh.1 hr).1)
     have hMn:M.length<=1000000000:=by
      rw[hM,lap,jD,List.length_take];rw[lap,jD]at hLn2;omega
     rw[<-hM]at hS ⊢;simp (disch:=omega) only[dw,pcC,tkC,w1,w2,ep,j2',cP7,q2,q5,q6,eLs,hlc,hll,go_sem]
     repeat' first|with_reducible apply aiA|exact clz|fail
     refine kl (Dy (a:=h.length+3) (b:=h.length+15) (c:=h.length) (va:=1) (vb:=vb+ps.length+i) (Z:= .mem 1 26 [.str x.sec,strs x.sig,qm x.tok,qn x.col]) ⟨by simp,by simp,by simp,oma,oma,oma⟩ M p (k:Int) (j:Int) (by simp only[go_sem]) (by simp only[go_sem]) (by simp only[go_sem]) (by rw[<-hX0];exact lX0) (hpF2 p hpm) hMn hMF) ?_;simp (disch:=omega) only[go_sem];refine hK3 _ _ (i+1,.mem (qo (some B)+1) 131 (pcC p)) ⟨hi,rfl,λn c hc=> ?_⟩ (by simp only;omega) ?_
     ·simp[pcC,tkC]at hc;rcases hc with rfl|rfl|rfl|rfl|rfl|rfl|rfl<;>rfl
     ·simp only[hS,pcC,tkC,lap,lco,lnl,lca,lna,Nat.zero_add];refine Wk.temps ?_
      (simp only[vI,dcC,go_sem,qg,qc,qb,qf];try exact tT)
    ·have w1:((i:Int)<qs.length)=False:=eqf oma;obtain rfl:i=qs.length:=by omega
     rw[List.take_length];simp (disch:=omega) only[w1,go_sem];have e2:nxT x l (k+1)=t':=by
      unfold nxT;rw[ipo oma,b2];unfold zf;rw[ine oma,Nat.add_sub_cancel]
     refine hK _ _ ⟨k+1,vb+ps.length+qs.length,P7,P8,A,O10,P11,B⟩ ⟨by simp only;omega,λO hO=> ?_⟩ (by simp only;omega) ?_
     ·simp only[List.mem_cons,List.not_mem_nil,or_false]at hO;rcases hO with rfl|rfl|rfl|rfl|rfl|rfl
      ·exact hP7l
      ·exact hP8l
      ·exact⟨sA,lA⟩
      ·exact⟨s10,l10⟩
      ·rw[hP11];refine⟨rfl,λn c hc=> ?_⟩;simp at hc;rcases hc with rfl|rfl|rfl|rfl<;>rfl
      ·exact⟨j2,j3⟩
     ·simp only[eR1,e2];refine Wk.temps ?_
      (simp only[go_sem,qg,qc,qb,qf];try exact tT)
  ·intro e hh hf;exact hf.elim
end RC
end
section
open Go Go.Proofs AF
def Ax:List Nat:= []
@[go_sem]def oB:DT:= DT.one ⟨some 23,none,.app 4 3 39 40,[.t 14,.t 22]⟩ (DT.one ⟨none,none,.store 1,[.t 4,.t 23]⟩ DT.nil)
def Nz:C:=
 (pk [O1 1 (.box 0 26) 0,ON 2 (.nilo 1 3 39) [],oF 3 0] ((pk [O1 7 (.load (some 4)) 1,O1 8 (.call 47 true) 7,oT 9 .neq 8 0] (p7 9 (p9 [ON 2 (.nilo 1 3 39) [],oF 3 1]))).seq (pk
 [⟨some 4,none,.alloc 2 31 [.nl],[]⟩] (((C.wk.seq (rv [O1 10 (.load (some 4)) 1,O1 11 (.call 62 true) 10])).seq (C.block 0 (C.range (.t 11) [12,13] (pk [MV 5 12] (rv [MV 6 13]))
 (C.block 1 (C.draw (DT.one ⟨some 15,none,.mv,[.t 5]⟩ (DT.one ⟨some 16,none,.mv,[.t 6]⟩ (DT.one ⟨some 17,none,.load (some 4),[.t 1]⟩ (DT.one ⟨some 18,none,.mv,[.t 5]⟩ (DT.one
 ⟨some 19,none,.mv,[.t 6]⟩ (DT.uni ⟨some 20,none,.call 63 true,[.t 17,.t 18,.t 19]⟩ (DT.one ⟨some 21,none,.build [i6 0,i6 0,.nl] [(0,1),(1,1),(2,1)],[.t 15,.t 16,.t 20]⟩
 ((DT.one ⟨some 14,none,.load none,[.t 4]⟩ (DT.one ⟨some 22,none,.bslc 3 3 1 39 [i6 0,i6 0,.nl] [(0,3)],[.t 21]⟩ oB)).two (DT.one ⟨some 22,none,.bslc 3 3 1 39 [i6 0,i6 0,.nl]
 [(0,3)],[.t 21]⟩ (DT.one ⟨some 14,none,.load none,[.t 4]⟩ oB))))))))))))))).seq (p9 [LD 24 4,MV 2 24,oF 3 0])))))
theorem F9:qK Tryz.prog 12 25 5 [RV.tmp 2,RV.tmp 3] Nz:=fi Tryz.f12 [1,2,4,22,23] Ax [4]
end
section
open Go Go.Proofs AF HY LN
namespace RC
def utE(x:Co):Int:=if coE x=0 then 0 else 1
def utR(x:Co):List Un:=if coE x=0 then yt x else []
theorem VZ{v n:Nat}{L:List Un}{ty:TypeId}{fz:Nat->Bool}{h:JN}{d:Nat}(hn:n=L.length):VLe (fP (some (ze v ty (wq L))) v 3 0 n (rei fz h (d+1))) (qZ L):=by
 subst hn;unfold ze;split
 ·rename_i e
  have:L= []:=by
   cases L with
   |nil=>rfl
   |cons a r=>exact absurd e (by simp[wq,unC])
  subst this;rw[slOf_emp,ipo rfl];exact qU
 ·rw[slOf_mem,ipo ⟨rfl,by rw[yK];omega⟩];refine VLe.sl_eq rfl (λi hi=> ?_);simp only[Nat.zero_add];rw[mq hi];rfl
theorem LG(x:Co)(h:JN)(hz:yv x)(hp:kM SG h):ACalls Tryz.prog 12 [.agg (coC x)] h (.tup [qZ (utR x),.int .i64 (utE x)]) h:=by
 have c1:=λl'=>coP x (h++l') hz (hp.app l')
 unfold utE utR
 by_cases g:coE x=0
 case neg=>
  have k1:(coE x=0)=False:=eqf g;rw[ine g,ine g];obtain⟨e,he⟩:=Qt (coE x)
  rw[<-he]at c1 k1;unfold coC at c1;refine acO F9 ?_;simp (disch:=omega) only[Nz,coC,go_sem]
  repeat' first|(refine cA (c1 _) flk ?_;simp (disch:=omega) only[k1,go_sem])|(apply qa;exact rvk;simp only[go_sem])
  exact VLe.tup ⟨qU,qi,trivial⟩
 rw[ipo g,ipo g];simp only[g]at c1;have ho:=j6 g;have hn:=hz.cl;have c2:=λh=>RL x h
 have lx: ∀n v ty,lowO n (.mem v ty (coC x)):=λn v ty=>AI x n v ty
 unfold coC at c1 c2;refine acO F9 ?_;simp (disch:=omega) only[Nz,coC,go_sem]
 repeat' first|(refine cA (c1 _) flk ?_;simp (disch:=omega) only[go_sem])
 refine⟨_,_,Wk.ownNil (j:=h.length+2) (i:=0) (k:=h.length+4) (v:=1) (ty:=31) (cs:= [.nl]) (ve:=0) (sz:=3) ?m1 rfl ?m2,?_⟩
 case m1=>simp only[go_sem]
 case m2=>simp only[go_sem]
 simp (disch:=omega) only[List.set_cons_zero,go_sem]
 repeat' first|(refine cA (c2 _) flk ?_;simp (disch:=omega) only[go_sem])
 have hrl:=gY x;have hrg:=λi hi=>Qb (x:=x) (i:=i) hi
 have hul:(yt x).length=(bz (cmB x) x.col.length).length:=yL x;have hue:=λi (hi:i<(bz (cmB x) x.col.length).length)=>an (x:=x) (k:=i) hi
 have hin:=λi (hi:i<(bz (cmB x) x.col.length).length)=>Qa (x:=x) (k:=i) hi
 have hle:(yt x).length<=1000000000:=by
  have h1:=cw (s:=0) (v8 x) (d:= []) (by simp) (yt x).length (nlr _);have h2:=vX (v8 x) (nlr (yt x).length);omega
 unfold rnL at hue hin;obtain⟨rs,hrs⟩:=Qt (bz (cmB x) x.col.length)
 simp only[<-hrs]at hrl hrg hul hue hin;obtain⟨L,hL⟩:=Qt (yt x)
 simp only[<-hL]at hul hue hle ⊢;obtain⟨X0,hX0⟩:=Qt (AObj.mem 1 26 [.str x.sec,strs x.sig,qm x.tok,qn x.col])
 refine zn (xs:=rnX x) (itR x ho hn) (Qc x)
  (S:=λi hh=> ∃w O1,qG [O1] 0=true∧(∀n,lowO n O1)∧hh=h++ [.mem 1 26 (coC x),.emp 1,.mem 1 31 [.osl (h.length+4) w 3 0 i],O1,ze w 39 (wq (L.take i))])
  (E:=λ_ _=>False) ?e1 (λ_ _ h=>h.elim) ?e2 ?e3 ?e4 ?e5 (λ_ _ h=>h.elim)
 case e1=>
  rintro i hh ⟨w,O1,_,l1,rfl⟩;refine LowI.app rfl (λo ho=> ?_);simp only[List.mem_cons,List.not_mem_nil,or_false]at ho;rcases ho with rfl|rfl|rfl|rfl|rfl
  ·left;simp[coC]
  ·left;simp
  ·right;constructor<;>(intro c hc;simp only[List.mem_cons,List.not_mem_nil,or_false]at hc;rcases hc with rfl;simp[qR])
  ·right;exact⟨l1 _,l1 _⟩
  ·right;exact⟨jd (cY _ _),jd (cY _ _)⟩
 case e2=>exact⟨0,.emp 0,rfl,λ_=>trivial,rfl⟩
 case e3=>
  have lt: ∀n,qR n (qm x.tok)=true:=λ_=>rfl
  have lc: ∀n,qR n (qn x.col)=true:=λ_=>rfl
  simp[qR,qR.lowVs,lt,lc,lF]
  try omega
 case e4=>
  rintro i hh tl LI TS hi ⟨w,O1,p1,l1,rfl⟩ hlen K4 K5 hK4 hN hR' hX;rw[hrg i hi];rw[hrl]at hi;have e5:=hue i hi;obtain⟨f1,f2,_⟩:=hin i hi;have e6:rs.getD i (0,0)=rs[i]:=by rw[gdqA,zg hi];rfl
  rw[e6];have p1': ∀m,qG (O1::m) 0=true:=λ_=>p1
  have hTk:L.take (i+1)=L.take i++ [L.getD i default]:=by
   rw[List.take_add_one,zg oma,gdqA,zg oma];rfl
  rw[e5]at hTk;have hTl:(L.take i).length=i:=by rw[List.length_take];omega
  have eVl:=yK (L.take i);rw[hTl]at eVl;have eVk:List.take (i*3) (wq (L.take i))=wq (L.take i):=ltl oma;obtain⟨⟨f,t⟩,hr⟩: ∃r,r=rs[i]:=⟨_,rfl⟩
  rw[<-hr]at hTk f1 f2 ⊢;have eVn:wq (L.take (i+1))=wq (L.take i)++ [.int .i64 (f:Int),.int .i64 (t:Int),jM (aF x f t)]:=by rw[hTk,Wt,Wu];rfl
  have c48:=λh=>RJ x f t h ho f2 hn
  unfold coC at c48;have zr: ∀X,(jM X).cells= [jM X]:=λ_=>rfl
  have zm:List.drop 3 (zQ [AV.int .i64 0,.int .i64 0,.nl] 1)= []:=rfl;have hi9:((i:Int)+1)*24<=140737488355328:=by omega
  simp only[ke];simp (disch:=omega) only[List.append_assoc,coC,go_sem];refine hK4 _ _ (h++ [.mem 1 26 (coC x),.emp 1,.mem 1 31 [.osl (h.length+4) w 3 0 i],O1,ze w 39 (wq (L.take i))]) (by simp[coC]) (by simp) ?_;simp (disch:=omega) only[List.append_assoc,coC,go_sem];refine jX ?T ?H ?h1 ?h2
  case h1=>
   simp (disch:=omega) only[go_sem]
   repeat' first|(refine cU (λ_=>c48 _) flk ?_;simp (disch:=omega) only[p1',eVl,eVk,List.set_cons_zero,zr,zm,go_sem])|with_reducible apply aiA
   all_goals first
    |omega
    |rfl
    |(rw[bne_iff_ne];omega)
    |skip
  case h2=>
  simp (disch:=omega) only[go_sem];refine hN _ _ (h++ [.mem 1 26 (coC x),.emp 1,.mem 1 31 [.osl (h.length+4) (w+1) 3 0 (i+1)],.mem (qo (some O1)+1) 39 [.int .i64 (f:Int),.int .i64 (t:Int),jM (aF x f t)],ze (w+1) 39 (wq (L.take (i+1)))]) (by rw[eVn];simp[coC]) (by simp)
   ⟨w+1,_,rfl,?lw,rfl⟩
  case lw=>
  intro n c hc;simp only[List.mem_cons,List.not_mem_nil,or_false]at hc;rcases hc with rfl|rfl|rfl<;>rfl
 case e5=>
  rintro hh ⟨w,O1,p1,l1,rfl⟩;rw[hrl,<-hul,List.take_length];simp (disch:=omega) only[go_sem]
  repeat' first|(apply qa;exact rvk;simp only[go_sem])|with_reducible apply aiA|exact clz|fail
  exact VLe.tup ⟨VZ rfl,qi,trivial⟩
end RC
end
section
namespace Go.Proofs
open Go.Shelf
end Go.Proofs
end
section
open Go Go.Proofs AF HY LN
namespace RC
theorem Xs{L:List Rd}{r:Nat}(hr:r<L.length):L.getD r default∈L:=by rw[gdqA,zg hr];exact List.getElem_mem hr
theorem tI{x:Co}{l:List Un}{b:List Wd}(ho:Nk x l){u:Nat}(hul:u<l.length):(hsK l b u).length<=x.sig.length:=by
 have hmem:l.getD u default∈l:=by rw[gdqA,zg hul];exact List.getElem_mem hul
 have hri:fR (l.getD u default).rds x.sig.length:=by rw[(ho.rg _ hmem).2.2.2];exact yH _ _ _
 have hlt:=fW l b u;unfold hsK;split
 ·rename_i h0;have hr:(brK l b u).toNat<(l.getD u default).rds.length:=by omega
  have h1:=hri.src ((l.getD u default).rds.getD (brK l b u).toNat default) (Xs hr);have h2:=fU (hi:=((x.sig.length:Nat):Int)) (lo:=0) h1.1 h1.2;omega
 ·exact nzl _
theorem B2{x:Co}{l:List Un}{b:List Wd}(g:pvE x l b=0){i:Nat}(hi:i<b.length):(soK x l b i).length<=x.sig.length∧ ∀s∈soK x l b i,0<=s∧s<x.sig.length:=by
 have hok:=uS g;have huo:=xX hok.un;obtain⟨p1,p2⟩:=uT g hi;unfold soK;split
 ·refine⟨Nat.le_of_eq (bH _),λs hs=> ?_⟩;unfold oY at hs;obtain⟨k,hk,rfl⟩:=List.mem_map.1 hs
  have:=List.mem_range.1 hk
  omega
 ·have hul:(b.getD i default).unit.toNat<l.length:=by omega
  refine⟨tI huo hul,λs hs=> ?_⟩;have hmem:l.getD (b.getD i default).unit.toNat default∈l:=by rw[gdqA,zg hul];exact List.getElem_mem hul
  have hri:fR (l.getD (b.getD i default).unit.toNat default).rds x.sig.length:=by rw[(huo.rg _ hmem).2.2.2];exact yH _ _ _
  have hlt:=fW l b (b.getD i default).unit.toNat;unfold hsK at hs;split at hs
  ·exact (hri.src _ (Xs oma)).2 s hs
  ·cases hs
end RC
end
section
open Go Go.Proofs AF
end
section
open Go Go.Proofs AF HY LN
namespace RC
end RC
end
