import Derived.Test.YtiiegfkjmnoijaaGreatDoorK15
import Derived.Test.YtiiegfkjmnoijaaGreatDoorK12
import Derived.Test.YtiiegfkjmnoijaaGreatDoorK3
import Derived.Test.YtiiegfkjmnoijaaGreatDoorK5
import Derived.Test.YtiiegfkjmnoijaaGreatDoorK8
import Derived.Test.YtiiegfkjmnoijaaGreatDoorProg
import Derived.Test.YtiiegfkjmnoijaaGreatDoorK14
set_option linter.all false
set_option maxHeartbeats 128000000
set_option maxRecDepth 100000
section
open Go Go.Proofs AF HY LN
namespace RC
def hsK(l:List Un)(b:List Wd)(k:Nat):List Int:=if 0<=brK l b k then ((l.getD k default).rds.getD (brK l b k).toNat default).src else []
def ql2(n:Nat):List Int:=(List.range n).map (λi:Nat=>(i:Int))
def soK(x:Co)(l:List Un)(b:List Wd)(i:Nat):List Int:=if (b.getD i default).unit<0 then ql2 x.sig.length else hsK l b (b.getD i default).unit.toNat
theorem qhe(n:Nat):ql2 (n+1)=ql2 n++ [(n:Int)]:=by unfold ql2;rw[List.range_succ,List.map_append];rfl
theorem qbz(n:Nat):(ql2 n).length=n:=by simp[ql2]
theorem qdH(l:List Un)(b:List Wd)(k:Nat):brK l b k<(l.getD k default).rds.length:=by
 unfold brK;rcases zE (λr=>decide (((l.getD k default).rds.getD r default).words=owG b (k:Int) b.length)) (l.getD k default).rds.length with⟨i,h1,_,_,h4⟩|⟨_,h2⟩
 ·rw[h4];omega
 ·rw[h2];omega
theorem qrR{l:List Un}{b:List Wd}{k:Nat}(hu:qbx l):(hsK l b k).length<=1000000000:=by
 unfold hsK;split
 ·exact hu.sr _ _
 ·exact nzl _
theorem qag(h:wh)(L:List Int):qk h (qy L)=some (L.length,qP L):=by
 show some (L.length,_)=_;rw[fmI]
theorem qf9{L:List Int}(h:L≠ []):valP (.isnil .slice false) [qy L]= .bool false:=by
 unfold qy;rw[W0,ine (by simpa using h)];rfl
theorem qAD(h:wh):ACalls Tryz.prog 130 [qy []] h (qy []) h:=by
 have s1:=λh=>qag h []
 have z0:valP (.isnil .slice false) [qy []]= .anyb:=rfl;have z1:okP (.isnil .slice false) [qy []]=True:=eqt trivial;have e0:qP []= []:=rfl;refine acO qpD ?_;simp (disch:=omega) only[qqI,s1,z0,z1,e0,go_sem]
 repeat' first|(apply qa;exact rvk;simp only[go_sem])|with_reducible apply aiA|exact clz|fail
 ·exact qW
 ·rfl
 ·exact VLe.sl_eq rfl (λi hi=>absurd hi (by simp))
theorem qCZ(L:List Int)(h:wh)(k:Nat)(hk:qJ h k=true)(h0:L≠ [])(hl:L.length<=1000000000):
  ACalls Tryz.prog 130 [qy L] h (.osl k (qn (qr k h)+1) 1 0 L.length) (qq k h (.mem (qn (qr k h)+1) 3 (qP L))):=by
 have s1:=λh=>qag h L
 have eP:=jk L;have hp:=List.length_pos_iff.2 h0;have z0:=qf9 h0;have z1:okP (.isnil .slice false) [qy L]=True:=eqt trivial;refine qby qpD k (by simp) ?_;simp only[lco,lnl,Nat.reduceAdd,Nat.reduceSub,List.replicate,lca,lna];simp (disch:=omega) only[qqI,s1,z0,z1,go_sem]
 repeat' first|(with_reducible apply aiA)
 all_goals first
  |omega
  |contradiction
  |skip
 ·rfl
 exact⟨h.length+1,2,1,0,L.length,3,qP L,_,⟨trivial,trivial⟩,rfl,rfl,om,by simp only[go_sem],qju L _,hk,rfl,rfl⟩
theorem qqm(x:Co)(l:List Un)(b:List Wd)(i:Nat)(h:wh)(hu:qbx l)(hb:b.length<=1000000)(hi:i<b.length)(hn:x.sig.length<=1000000)(hul:(b.getD i default).unit<(l.length:Int)):
  ACalls Tryz.prog 74 [.agg (coC x),zA l,jD b,.int .i64 (i:Int)] h (qy (soK x l b i)) h:=by
 have zb:jD b= .sl b.length λi=>wdC (b.getD i default):=rfl
 have zu:zA l= .sl l.length λi=>unC (l.getD i default):=rfl
 have zs1: ∀g,valL g .len [strs x.sig]= .int .i64 x.sig.length:=λ_=>rfl
 have zs2: ∀g,okL g .len [strs x.sig]=True:=λ_=>eqt trivial
 have k5:(0<=(i:Int))=True:=wj;have k6:((i:Int)<b.length)=True:=wj;unfold soK;obtain⟨w,hw⟩:=wg (b.getD i default)
 have ew:=hw.symm;rw[ew]at hul ⊢
 by_cases g1:w.unit<0
 ·have k1:(w.unit<0)=True:=eqt g1;rw[ipo g1];refine acO qnh ?_;simp (disch:=omega) only[qv3,coC,zb,wdC,k1,k5,k6,ew,zs1,zs2,go_sem];refine qu (T:=λs:Nat×Nat×AObj=>zf 48 [(10,.osl (h.length+2) s.2.1 1 0 s.1),(22,.int .i64 x.sig.length),(23,.int .i64 s.1)])
   (H:=λs=>h++ [.mem 1 26 [.str x.sec,strs x.sig,qm x.tok,qp x.col],.emp 1,qZ s.2.1 3 (qP (ql2 s.1)),s.2.2,.emp 0])
   (inv:=λs=>s.1<=x.sig.length∧qJ [s.2.2] 0=true) (m:=λs=>x.sig.length-s.1) (0,1,.emp 0) ⟨nzl _,rfl⟩ (Wk.temps ?_) ?_
  ·(simp only[go_sem,qg,qc,qb,qf];try exact we)
  rintro⟨j,v,O⟩ ⟨j1,j2⟩ K hK;simp only at j1 j2 hK;have j2': ∀m,qJ (O::m) 0=true:=λ_=>j2
  have hst:=qhe j;have hln:=qbz j;obtain⟨M,hM⟩:=wg (ql2 j)
  rw[<-hM]at hst hln ⊢;have eC:=jk M;rw[hln]at eC;have eT:List.take j (qP M)=qP M:=ltl om
  by_cases hj:j<x.sig.length
  ·have r1:((j:Int)<x.sig.length)=True:=wj;simp (disch:=omega) only[r1,j2',eC,eT,Nat.mul_one,go_sem]
   repeat' first|with_reducible apply aiA|exact clz|fail
   have eA:qP M++ [AV.int .i64 (j:Int)]=qP (ql2 (j+1)):=by rw[hst,qc0];rfl
   have eD:(AV.int .i64 (j:Int)::List.drop 1 (zQ [AV.int .i64 0] 1))= [AV.int .i64 (j:Int)]:=rfl
   try rw[eD]
   try rw[eA]
   refine hK _ _ (j+1,v+1,.mem (qn (some O)+1) 3 [.int .i64 (j:Int)]) ⟨hj,rfl⟩ (by simp only;omega) (Wk.temps ?_)
   (simp only[go_sem,qg,qc,qb,qf];try exact we)
  ·obtain rfl:j=x.sig.length:=by omega
   have r1:((x.sig.length:Int)<x.sig.length)=False:=wm;rw[hM];simp (disch:=omega) only[r1,go_sem]
   repeat' first|(apply qa;exact rvk;simp only[go_sem])
   exact qfh (λ_=>rfl) (qbz _).symm
 have k1:(w.unit<0)=False:=eqf g1;rw[ine g1];obtain⟨k,hk⟩: ∃k:Nat,w.unit=(k:Int):=⟨w.unit.toNat,om⟩
 rw[hk]at hul k1;rw[hk,itn];have c107:=λh=>qyT l b k h hu hb om
 have hlt:=qdH l b k;have hsl:=qrR (b:=b) (k:=k) hu;have hd:hsK l b k=if 0<=brK l b k then ((l.getD k default).rds.getD (brK l b k).toNat default).src else []:=rfl
 have q1:(0<=(k:Int))=True:=wj;have q2:((k:Int)<l.length)=True:=wj;obtain⟨r,hr⟩:=wg (brK l b k)
 rw[<-hr]at hd hlt;simp only[<-hr]at c107
 by_cases g2:0<=r
 case neg=>
  have k2:(0<=r)=False:=eqf g2;rw[ine g2]at hd;rw[hd];refine acO qnh ?_;simp (disch:=omega) only[qv3,coC,zb,wdC,k1,k5,k6,ew,hk,go_sem]
  repeat' first|(refine cA (c107 _) flk ?_;simp (disch:=omega) only[k2,go_sem])|(apply qa;exact rvk;simp only[go_sem])
  exact qW
 have k2:(0<=r)=True:=eqt g2;rw[ipo g2]at hd;obtain⟨u,hux⟩:=wg (l.getD k default)
 have eu:=hux.symm;rw[eu]at hd hlt;have q3:(r<u.rds.length)=True:=eqt hlt;obtain⟨S,hS⟩:=wg (hsK l b k)
 rw[<-hS]at hd hsl ⊢;have eS:=hd.symm;have zr:kf u.rds= .sl u.rds.length λi=>rdC (u.rds.getD i default):=rfl
 by_cases g3:S= []
 ·subst g3;have c156:=λh=>qAD h
  refine acO qnh ?_;simp (disch:=omega) only[qv3,coC,zb,wdC,k1,k5,k6,ew,hk,go_sem]
  repeat' first|(refine cA (c107 _) flk ?_;simp (disch:=omega) only[zu,unC,zr,rdC,k2,q1,q2,q3,eu,eS,go_sem])|with_reducible apply aiA|exact clz|fail
  refine qv (c156 _) (by exact flk) ?_;simp (disch:=omega) only[go_sem]
  repeat' first|exact wa|fail
 refine acO qnh ?_;simp (disch:=omega) only[qv3,coC,zb,wdC,k1,k5,k6,ew,hk,go_sem]
 repeat' first|(refine cA (c107 _) flk ?_;simp (disch:=omega) only[zu,unC,zr,rdC,k2,q1,q2,q3,eu,eS,go_sem])|with_reducible apply aiA|exact clz|fail
 refine qv (qCZ S _ (h.length+2) (by simp only[go_sem]) g3 hsl) (by exact flk) ?_;simp (disch:=omega) only[go_sem]
 repeat' first|(apply qa;exact rvk;simp only[go_sem])
 rw[ipo (by rw[jk];exact nlr _)];exact qc1 _ (λ_=>rfl) rfl
end RC
end
section
open Go Go.Proofs AF
def U9:List Nat:= []
def qAv:C:=
 (vU [ON 4 (.nilo 0 1 3) []] ((vU [MV 9 1,vP 10 .lss 9 0] (vV 10 C.bad)).seq (vU [MV 13 0,O1 14 .len 13,O1 15 (.conv .u64) 14,MV 16 1,O1 17 (.conv .u64) 16,O2 18 (.call 133 true)
 15 17,MV 12 18,O1 19 (.ext 0) 12,O1 20 (.ext 1) 12,MV 5 19,MV 6 20] ((vU [MV 21 5,BC 22 .gtr 21 (.int .u64 0),MV 23 22,vS 24 23 6,vT 25 23 (.bin .gtr) 24 (.int .u64
 9223372036854775807),PT 26 23 25] (vV 26 C.bad)).seq (vU [MV 28 6,O1 29 (.conv .i64) 28,⟨some 30,none,.mkslc 1 1 3 [i6 0] 8,[.t 29,.t 29]⟩,MV 7 30] (vU [MV 31 7,MV 32 0,O2 33
 (.cpy 1) 31 32,MV 8 33] ((C.block 0 ((v6 34 8 7 0).seq (C.block 1 (vY [MV 38 8,MV 39 7,MV 40 8,O2 41 (.slc 1 true false) 39 40,MV 42 7,MV 43 8,O2 44 (.slc 1 false true) 42
 43,O2 45 (.cpy 1) 41 44,BI 46 .add 38 45,MV 8 46]))).loop).seq (vX [MV 47 7,MV 4 47]))))))))
theorem qx2:qM Tryz.prog 79 48 2 [RV.tmp 4] qAv:=fi Tryz.f79 [4,30] U9 []
def quW:C:=
 (vU [MC 4 (.int .u64 0),MC 5 (.int .u64 0)] ((C.cond (.c (.bool false)) (vU [MV 11 0,O1 12 (.conv .u32) 11,MV 13 1,O1 14 (.conv .u32) 13,O2 15 (.call 183 true) 12 14,MV 10 15,O1
 16 (.ext 0) 10,O1 17 (.ext 1) 10,MV 6 16,MV 7 17] (vX [MV 18 6,O1 19 (.conv .u64) 18,MV 20 7,O1 21 (.conv .u64) 20,MV 4 19,MV 5 21])) C.skip).seq (vU [MV 23 0,MV 24 1,O2 25
 (.call 184 true) 23 24,MV 22 25,O1 26 (.ext 0) 22,O1 27 (.ext 1) 22,MV 8 26,MV 9 27] (vX [MV 28 8,MV 29 9,MV 4 28,MV 5 29]))))
theorem qwJ:qM Tryz.prog 133 30 0 [RV.tmp 4,RV.tmp 5] quW:=fi Tryz.f133 [] U9 []
def qvj:C:=
 (vU [MC 4 (.int .u64 0),MC 5 (.int .u64 0)] (vU [MV 14 0,BC 15 .and 14 (.int .u64 4294967295),MV 6 15] (vU [MV 16 0,BC 17 .shr 16 (.int .u64 32),MV 7 17] (vU [MV 18 1,BC 19 .and
 18 (.int .u64 4294967295),MV 8 19] (vU [MV 20 1,BC 21 .shr 20 (.int .u64 32),MV 9 21] (vU [MV 22 6,MV 23 8,BI 24 .mul 22 23,MV 10 24] (vU [MV 25 7,MV 26 8,BI 27 .mul 25 26,MV
 28 10,BC 29 .shr 28 (.int .u64 32),BI 30 .add 27 29,MV 11 30] (vU [MV 31 11,BC 32 .and 31 (.int .u64 4294967295),MV 12 32] (vU [MV 33 11,BC 34 .shr 33 (.int .u64 32),MV 13 34]
 (vU [MV 35 12,MV 36 6,MV 37 9,BI 38 .mul 36 37,BI 39 .add 35 38,MV 12 39] (vU [MV 40 7,MV 41 9,BI 42 .mul 40 41,MV 43 13,BI 44 .add 42 43,MV 45 12,BC 46 .shr 45 (.int .u64
 32),BI 47 .add 44 46,MV 4 47] (vX [MV 48 0,MV 49 1,BI 50 .mul 48 49,MV 5 50]))))))))))))
theorem qw9:qM Tryz.prog 184 51 0 [RV.tmp 4,RV.tmp 5] qvj:=fi Tryz.f184 [] U9 []
def qz5:C:=
 (vU [ON 2 (.nilo 0 3 64) []] ((vU [MV 3 0,O1 4 (.isnil .slice false) 3] (vV 4 (vX [ON 2 (.nilo 0 3 64) []]))).seq (vX [⟨some 5,none,.bslc 1 3 0 64 [i6 0,i6 0,.nl] [],[]⟩,MV 6
 0,O2 7 (.app 2 3 64 40) 5 6,MV 2 7])))
theorem qrH:qM Tryz.prog 82 8 3 [RV.tmp 2] qz5:=fi Tryz.f82 [2,5,7] U9 []
end
section
open Go Go.Proofs AF HY LN
namespace RC
def SO(L:List Un):wi:=L.flatMap unC
theorem qlx(u:Un):(unC u).length=3:=rfl
theorem qah(L:List Un):(SO L).length=L.length*3:=by
 unfold SO
 induction L with
 |nil=>rfl
 |cons a L ih=>rw[List.flatMap_cons,lap,ih,lco,qlx];omega
theorem qo5(A B:List Un):SO (A++B)=SO A++SO B:=by simp[SO]
theorem qo6(a:Un):SO [a]=unC a:=by simp[SO]
theorem qly(L:List Un): ∀i,(SO L).drop (i*3)=SO (L.drop i):=by
 induction L with
 |nil=>intro i;simp[SO]
 |cons a L ih=>
  intro i;cases i with
  |zero=>simp
  |succ i=>
   rw[show SO (a::L)=unC a++SO L from rfl,show (a::L).drop (i+1)=L.drop i from rfl,<-ih i];rw[show (i+1)*3=(unC a).length+i*3 by rw[qlx];omega,List.drop_append,List.drop_eq_nil_of_le om,lna,Nat.add_sub_cancel_left]
theorem qfs{L:List Un}{i:Nat}(hi:i<L.length):((SO L).drop (i*3)).take 3=unC (L.getD i default):=by
 rw[qly,List.drop_eq_getElem_cons hi,gdqA,zn hi];rfl
theorem qnf(L:List Un):((List.range L.length).flatMap λi=>unC (L.getD i default))=SO L:=by
 unfold SO;have e:L=(List.range L.length).map λi=>L.getD i default:=by
  apply List.ext_getElem (by simp);intro i h1 h2;simp[gdqA,h1]
 conv=>rhs;rw[e]
 rw[List.flatMap_map]
theorem qla(h:wh)(L:List Un):qk h (zA L)=some (L.length,SO L):=by
 show some (L.length,_)=_;rw[qnf]
theorem qcl(L:List Un)(n:Nat): ∀c∈SO L,qS n c=true:=by
 intro c hc;unfold SO at hc;obtain⟨x,_,hx⟩:=List.mem_flatMap.1 hc;simp only[unC,List.mem_cons,List.not_mem_nil,or_false]at hx;rcases hx with rfl|rfl|rfl<;>rfl
theorem qjx{L:List Un}(h:L≠ []):valP (.isnil .slice false) [zA L]= .bool false:=by
 unfold zA;rw[W0,ine (by simpa using h)];rfl
theorem qC0(L:List Un)(h:wh)(k:Nat)(hk:qJ h k=true)(h0:L≠ [])(hl:L.length<=1000000000):
  ACalls Tryz.prog 82 [zA L] h (.osl k (qn (qr k h)+1) 3 0 L.length) (qq k h (.mem (qn (qr k h)+1) 64 (SO L))):=by
 have s1:=λh=>qla h L
 have eP:=qah L;have hp:=List.length_pos_iff.2 h0;have z0:=qjx h0;have z1:okP (.isnil .slice false) [zA L]=True:=eqt trivial;refine qby qrH k (by simp) ?_;simp only[lco,lnl,Nat.reduceAdd,Nat.reduceSub,List.replicate,lca,lna];simp (disch:=omega) only[qz5,s1,z0,z1,go_sem]
 repeat' first|(with_reducible apply aiA)
 all_goals first
  |omega
  |contradiction
  |skip
 all_goals try rfl
 exact⟨h.length+1,2,3,0,L.length,64,SO L,_,⟨trivial,trivial⟩,rfl,rfl,om,by simp only[go_sem],qcl L _,hk,rfl,rfl⟩
theorem qcz{n:Int}(h0:0<=n)(h1:n<18446744073709551616):IntKind.u64.wrap n=n:=by
 have e1:(2:Int)^IntKind.bits IntKind.u64=18446744073709551616:=rfl;have e3:IntKind.signed IntKind.u64=false:=rfl;unfold IntKind.wrap;rw[e1,e3];simp only[Bool.false_and,Bool.false_eq_true,if_false];omega
theorem qkR{a:Int}:qut .u64 a 32=a/4294967296:=by
 have e:(2:Int)^(min (32:Int).toNat IntKind.u64.bits)=4294967296:=rfl;unfold qut;rw[e,Int.fdiv_eq_ediv_of_nonneg _ om]
theorem quC{n:Nat}(hn:n<=1000000000):ql3 .u64 (n:Int) 4294967295=n:=by
 have e:IntKind.u64.bits=64:=rfl;unfold ql3;rw[e,BitVec.toNat_and,BitVec.toNat_ofInt,BitVec.toNat_ofInt];have e2:((n:Int)%((2^64:Nat):Int)).toNat=n:=by
  rw[show ((2^64:Nat):Int)=18446744073709551616 by rfl];omega
 have e3:((4294967295:Int)%((2^64:Nat):Int)).toNat=2^32-1:=by rfl
 rw[e2,e3,Nat.and_two_pow_sub_one_eq_mod,qcz om om];omega
theorem qDs(n:Nat)(h:wh)(hn:n<=1000000000):ACalls Tryz.prog 184 [.int .u64 1,.int .u64 (n:Int)] h (.tup [.int .u64 0,.int .u64 (n:Int)]) h:=by
 have e0:qut .u64 1 32=0:=by rw[qkR];rfl
 have e1:qut .u64 (n:Int) 32=0:=by rw[qkR];omega
 have e2:qut .u64 0 32=0:=by rw[qkR];rfl
 have e3:ql3 .u64 1 4294967295=1:=by decide+kernel
 have e4:ql3 .u64 0 4294967295=0:=by decide+kernel
 have e5:IntKind.u64.wrap 0=0:=by decide
 have e6:IntKind.u64.wrap (n:Int)=n:=qcz om om;refine acO qw9 ?_;simp (disch:=omega) only[qvj,go_sem]
 repeat' first|(apply qe;exact rvk;simp only[go_sem])|with_reducible apply aiA|exact clz|fail
 have e7:=quC hn;simp only[e0,e1,e2,e3,e4,e5,e6,e7,Int.zero_mul,Int.mul_zero,Int.one_mul,Int.add_zero];exact qi
theorem qCw(n:Nat)(h:wh)(hn:n<=1000000000):ACalls Tryz.prog 133 [.int .u64 1,.int .u64 (n:Int)] h (.tup [.int .u64 0,.int .u64 (n:Int)]) h:=by
 have c1:=λh=>qDs n h hn
 refine acO qwJ ?_;simp (disch:=omega) only[quW,go_sem]
 repeat' first|(refine cA (c1 _) flk ?_;simp (disch:=omega) only[go_sem])|exact wc|with_reducible apply aiA|exact clz|fail
def rpC(a:Int)(n i:Nat):wi:=gC (λj=> .int .i64 (if j<i then a else 0)) n
theorem qjE(n:Nat):zQ [.int .i64 0] n=rpC 0 n 0:=by
 refine List.ext_getElem? λk=> ?_
 obtain⟨h1,h2⟩:=R9 [AV.int .i64 0] n
 by_cases hk:k<n
 ·unfold rpC;rw[RZ hk,ine (nnz _)]
  have:=h2 k (by simp;omega)
  rw[this,List.length_singleton,Nat.mod_one];rfl
 ·rw[List.getElem?_eq_none (by rw[h1];simp;omega),List.getElem?_eq_none (by unfold rpC;rw[kn];omega)]
theorem Ti(a:Int)(n i:Nat):(rpC a n i).length=n:=by unfold rpC;rw[kn]
theorem Tf{a:Int}{n i k:Nat}(hk:k<n):(rpC a n i)[k]? =some (.int .i64 (if k<i then a else 0)):=by unfold rpC;rw[RZ hk]
theorem qow(a:Int){n i j:Nat}(hj:j<=i)(hi:i+j<=n):(rpC a n i).take i++(rpC a n i).take j++(rpC a n i).drop (i+j)=rpC a n (i+j):=by
 have hl:=Ti a n i;have l1:((rpC a n i).take i).length=i:=by rw[List.length_take];omega
 have l2:((rpC a n i).take j).length=j:=by rw[List.length_take];omega
 refine List.ext_getElem? λk=> ?_
 by_cases hk:k<n
 ·rw[Tf hk]
  by_cases g1:k<i
  ·rw[List.append_assoc,List.getElem?_append_left om,List.getElem?_take,ipo g1,Tf hk,ipo g1,ipo om]
  ·rw[List.append_assoc,List.getElem?_append_right om,l1]
   by_cases g2:k-i<j
   ·rw[List.getElem?_append_left om,List.getElem?_take,ipo g2,Tf om,ipo om,ipo om]
   ·rw[List.getElem?_append_right om,l2,List.getElem?_drop,show i+j+(k-i-j)=k by omega,Tf hk,ine g1,ine om]
 ·rw[List.getElem?_eq_none (by simp only[lap,l1,l2,List.length_drop,hl];omega),List.getElem?_eq_none (by rw[Ti];omega)]
theorem qsZ(a:Int){n:Nat}(hn:0<n):List.take 1 (qP [a])++List.drop 1 (rpC 0 n 0)=rpC a n 1:=by
 refine List.ext_getElem? λk=> ?_
 by_cases hk:k<n
 ·rw[Tf hk];cases k with
  |zero=>rfl
  |succ k=>
   rw[List.getElem?_append_right (by simp[qP]),List.getElem?_drop];rw[show 1+(k+1-(List.take 1 (qP [a])).length)=k+1 by simp[qP];omega,Tf hk,ine (nnz _),ine om]
 ·rw[List.getElem?_eq_none (by simp[qP,Ti];omega),List.getElem?_eq_none (by rw[Ti];omega)]
theorem qsY(a:Int)(n:Nat):rpC a n n=qP (List.replicate n a):=by
 refine List.ext_getElem? λk=> ?_
 by_cases hk:k<n
 ·rw[Tf hk,ipo hk];unfold qP;rw[List.getElem?_map,List.getElem?_replicate,ipo hk];rfl
 ·rw[List.getElem?_eq_none (by rw[Ti];omega),List.getElem?_eq_none (by simp[qP];omega)]
theorem qDF(a:Int)(n:Nat)(h:wh)(k:Nat)(hk:qJ h k=true)(h0:0<n)(hl:n<=1000000000):
  ACalls Tryz.prog 79 [qy [a],.int .i64 (n:Int)] h (.osl k (qn (qr k h)+1) 1 0 n) (qq k h (.mem (qn (qr k h)+1) 3 (qP (List.replicate n a)))):=by
 have s1:=λh=>qag h [a]
 have c1:=λh=>qCw n h hl
 have k1:((n:Int)<0)=False:=wm;have k2:((9223372036854775807:Int)<n)=False:=wm;have z1: ∀g,valL g .len [qy [a]]= .int .i64 1:=λ_=>rfl
 have z2: ∀g,okL g .len [qy [a]]=True:=λ_=>eqt trivial
 have e5:IntKind.u64.wrap 1=1:=by decide
 have e6:IntKind.u64.wrap (n:Int)=n:=qcz om om;refine qby qx2 k (by simp) ?_;simp only[lco,lnl,Nat.reduceAdd,Nat.reduceSub,List.replicate,lca,lna];simp (disch:=omega) only[qAv,z1,z2,k1,e5,e6,go_sem]
 repeat' first|(refine cA (c1 _) flk ?_;simp (disch:=omega) only[s1,k2,go_sem])|(with_reducible first|intro _|apply aiA)|exact clz|fail
 ·rw[qjE,Ti];exact nlr _
 ·rfl
 have e8:min 1 n=1:=by omega
 rw[e8,qjE,qsZ a h0];refine qu (T:=λi:Nat=>zf 48 [(7,.osl (h.length+1) 1 1 0 n),(8,.int .i64 i)]) (H:=λi=>h++ [.emp 1,.mem 1 3 (rpC a n i)])
  (inv:=λi=>0<i∧i<=n) (m:=λi=>n-i) 1 ⟨Nat.one_pos,h0⟩ (Wk.temps ?_) ?_
 ·(simp only[go_sem,qg,qc,qb,qf];try exact we)
 rintro i ⟨i1,i2⟩ K hK;have hrl:=Ti a n i
 by_cases hi:i<n
 ·have q1:((i:Int)<n)=True:=wj;have q2:(i<=n)=True:=eqt i2;simp (disch:=omega) only[q1,q2,hrl,Nat.sub_zero,Option.isSome_some,Option.getD_some,if_true,go_sem]
  repeat' first|with_reducible apply aiA|exact clz|fail
  ·rw[List.length_take,hrl];omega
  have e9:List.take (min i (n-i)) (List.take i (rpC a n i))=List.take (min i (n-i)) (rpC a n i):=by rw[List.take_take,show min (min i (n-i)) i=min i (n-i) by omega]
  rw[e9,qow a om om];refine hK _ _ (i+min i (n-i)) ⟨om,om⟩ om (Wk.temps ?_)
  (simp only[Int.natCast_add,go_sem,qg,qc,qb,qf];try exact we)
 ·have q1:((i:Int)<n)=False:=wm;obtain rfl:i=n:=by omega
  simp (disch:=omega) only[q1,go_sem];rw[qsY];exact⟨h.length+1,1,1,0,i,3,qP (List.replicate i a),_,⟨trivial,trivial⟩,rfl,rfl,om,by simp only[go_sem],λc hc=>by
   unfold qP at hc;obtain⟨z,_,rfl⟩:=List.mem_map.1 hc
   rfl,hk,rfl,rfl⟩
end RC
end
section
open Go Go.Proofs AF
def qny:List Nat:= [80,79,82]
@[go_sem]def vC:DT:= DT.one ⟨some 78,none,.app 6 3 64 40,[.t 69,.t 77]⟩ (DT.one ⟨some 79,none,.len,[.t 78]⟩ DT.nil)
@[go_sem]def vL:DT:= DT.one ⟨some 77,none,.bslc 5 3 1 64 [i6 0,i6 0,.nl] [(0,3)],[.t 76]⟩ vC
@[go_sem]def vt:DT:= DT.one ⟨some 76,none,.build [i6 0,i6 0,.nl] [(0,1),(1,1)],[.t 72,.t 75]⟩ vL
@[go_sem]def vu:DT:= DT.one ⟨some 76,none,.build [i6 0,i6 0,.nl] [(0,1),(1,1)],[.t 72,.t 75]⟩ ((DT.one ⟨some 69,none,.call 82 false,[.t 68]⟩ vL).two (DT.one ⟨some 77,none,.bslc 5 3 1 64 [i6 0,i6
 0,.nl] [(0,3)],[.t 76]⟩ (DT.one ⟨some 69,none,.call 82 false,[.t 68]⟩ vC)))
@[go_sem]def vD:DT:= DT.one ⟨some 75,none,.len,[.t 74]⟩ vt
@[go_sem]def vy:DT:= DT.one ⟨some 74,none,.load none,[.t 73]⟩ vD
@[go_sem]def vF:DT:= DT.one ⟨some 72,none,.len,[.t 71]⟩ (DT.one ⟨some 73,none,.fldA 3,[.t 4]⟩ vy)
@[go_sem]def vG:DT:= (DT.one ⟨some 69,none,.call 82 false,[.t 68]⟩ (DT.one ⟨some 72,none,.len,[.t 71]⟩ vt)).two (DT.one ⟨some 72,none,.len,[.t 71]⟩ vu)
@[go_sem]def vH:DT:= (DT.one ⟨some 69,none,.call 82 false,[.t 68]⟩ vD).two (DT.one ⟨some 75,none,.len,[.t 74]⟩ vu)
@[go_sem]def vx:DT:= (DT.one ⟨some 69,none,.call 82 false,[.t 68]⟩ (DT.one ⟨some 72,none,.len,[.t 71]⟩ vD)).two ((DT.one ⟨some 72,none,.len,[.t 71]⟩ vH).two (DT.one ⟨some 75,none,.len,[.t 74]⟩ vG))
@[go_sem]def vA:DT:= (DT.one ⟨some 69,none,.call 82 false,[.t 68]⟩ vy).two (DT.one ⟨some 74,none,.load none,[.t 73]⟩ vH)
@[go_sem]def vE:DT:= (DT.one ⟨some 69,none,.call 82 false,[.t 68]⟩ (DT.one ⟨some 72,none,.len,[.t 71]⟩ vy)).two ((DT.one ⟨some 72,none,.len,[.t 71]⟩ vA).two (DT.one ⟨some 74,none,.load none,[.t 73]⟩
 vx))
@[go_sem]def vI:DT:= DT.one ⟨some 71,none,.load none,[.t 70]⟩ (DT.one ⟨some 72,none,.len,[.t 71]⟩ vy)
@[go_sem]def vJ:DT:= DT.one ⟨some 71,none,.load none,[.t 70]⟩ (DT.one ⟨some 72,none,.len,[.t 71]⟩ vD)
@[go_sem]def vK:DT:= DT.one ⟨some 71,none,.load none,[.t 70]⟩ (DT.one ⟨some 72,none,.len,[.t 71]⟩ vt)
@[go_sem]def vz:DT:= (DT.one ⟨some 69,none,.call 82 false,[.t 68]⟩ vK).two (DT.one ⟨some 71,none,.load none,[.t 70]⟩ vG)
@[go_sem]def vB:DT:= (DT.one ⟨some 69,none,.call 82 false,[.t 68]⟩ vJ).two ((DT.one ⟨some 71,none,.load none,[.t 70]⟩ vx).two (DT.one ⟨some 75,none,.len,[.t 74]⟩ vz))
@[go_sem]def vv:DT:= (DT.one ⟨some 69,none,.call 82 false,[.t 68]⟩ vI).two ((DT.one ⟨some 71,none,.load none,[.t 70]⟩ vE).two (DT.one ⟨some 74,none,.load none,[.t 73]⟩ vB))
def qdA:C:=
 (vU [O1 4 (.box 0 26) 0,ON 8 (.nilo 1 7 36) [],vO 9 0] ((vU [O1 26 (.load (some 4)) 4,MV 27 1,O2 28 (.call 75 true) 26 27,MV 10 28] (vU [MV 29 10,vP 30 .neq 29 0] (vV 30 (vX [MV
 31 10,ON 8 (.nilo 1 7 36) [],MV 9 31])))).seq ((vU [MV 32 3,vP 33 .lss 32 0,MV 34 33,vS 35 34 3,v7 36 34 1 4,v8 37 34 36,vQ 38 34 .len 37,vR 39 34 (.bin .geq) 35 38,PT 40 34
 39] (vV 40 (vX [ON 8 (.nilo 1 7 36) [],vO 9 2]))).seq (vU [O1 42 (.load (some 4)) 4,MV 43 1,MV 44 2,ON 45 (.call 78 true) [.t 42,.t 43,.t 44],MV 41 45,O1 46 (.ext 0) 41,O1 47
 (.ext 1) 41,MV 11 46,MV 12 47] ((vU [MV 48 12,vP 49 .neq 48 0] (vV 49 (vX [MV 50 12,ON 8 (.nilo 1 7 36) [],MV 9 50]))).seq (vU [⟨some 51,none,.bslc 2 1 1 3 [i6 0] [(0,1)],[.c
 (i6 (-1))]⟩,MV 52 1,O1 53 .len 52,O2 54 (.call 79 false) 51 53,MV 13 54] ((vU [MV 55 11,O1 56 .len 55,vO 57 0] (C.block 0 (vU [BI 58 .lss 57 56] ((vW 58 0).seq ((C.block 1 (vU
 [MV 59 57,O2 60 (.idxA 1) 55 57,LD 61 60,MV 14 59,MV 15 61] (vY [MV 62 13,MV 63 15,MV 64 14,O2 65 (.idxA 1) 62 63,ST 1 65 64]))).seq (vY [vP 66 .add 57 1,MV 57
 66])))).loop)).seq (vU [⟨some 16,none,.alloc 3 29 [.nl],[]⟩] ((C.wk.seq (vY [O1 67 (.mkfn (Fn.func 80) 0) 16,⟨some 17,none,.alloc 4 121 [.nilfn],[]⟩,ST 1 17 67])).seq (vU [vO
 18 0] (((C.draw (DT.one ⟨some 68,none,.mv,[.t 1]⟩ (DT.one ⟨some 80,none,.mv,[.c (i6 0)]⟩ ((DT.one ⟨some 69,none,.call 82 false,[.t 68]⟩ (DT.one ⟨some 70,none,.fldA 3,[.t 4]⟩
 (DT.one ⟨some 71,none,.load none,[.t 70]⟩ vF))).two ((DT.one ⟨some 70,none,.fldA 3,[.t 4]⟩ ((DT.one ⟨some 69,none,.call 82 false,[.t 68]⟩ (DT.one ⟨some 71,none,.load none,[.t
 70]⟩ vF)).two ((DT.one ⟨some 71,none,.load none,[.t 70]⟩ ((DT.one ⟨some 69,none,.call 82 false,[.t 68]⟩ vF).two ((DT.one ⟨some 72,none,.len,[.t 71]⟩ ((DT.one ⟨some
 69,none,.call 82 false,[.t 68]⟩ (DT.one ⟨some 73,none,.fldA 3,[.t 4]⟩ vy)).two (DT.one ⟨some 73,none,.fldA 3,[.t 4]⟩ vA))).two (DT.one ⟨some 73,none,.fldA 3,[.t 4]⟩ vE)))).two
 (DT.one ⟨some 73,none,.fldA 3,[.t 4]⟩ vv)))).two (DT.one ⟨some 73,none,.fldA 3,[.t 4]⟩ ((DT.one ⟨some 69,none,.call 82 false,[.t 68]⟩ (DT.one ⟨some 70,none,.fldA 3,[.t 4]⟩
 vI)).two ((DT.one ⟨some 70,none,.fldA 3,[.t 4]⟩ vv).two (DT.one ⟨some 74,none,.load none,[.t 73]⟩ ((DT.one ⟨some 69,none,.call 82 false,[.t 68]⟩ (DT.one ⟨some 70,none,.fldA
 3,[.t 4]⟩ vJ)).two ((DT.one ⟨some 70,none,.fldA 3,[.t 4]⟩ vB).two (DT.one ⟨some 75,none,.len,[.t 74]⟩ ((DT.one ⟨some 69,none,.call 82 false,[.t 68]⟩ (DT.one ⟨some 70,none,.fldA
 3,[.t 4]⟩ vK)).two (DT.one ⟨some 70,none,.fldA 3,[.t 4]⟩ vz)))))))))))))).seq (C.block 2 (vU [BI 81 .lss 80 79] ((vW 81 2).seq ((C.block 3 (vU [MV 82 80,O2 83 (.idxA 3) 78
 80,O1 84 (.load (some 3)) 83,⟨some 19,none,.alloc 7 3 [i6 0],[]⟩,⟨some 20,none,.alloc 8 64 [i6 0,i6 0,.nl],[]⟩,ST 1 19 82,ST 3 20 84] ((vU [O1 85 (.load (some 4)) 4,MV 86 18,vN
 87 0 20,LD 88 87,MV 89 3,ON 90 (.call 83 true) [.t 85,.t 86,.t 88,.t 89]] (C.block 4 (C.range (.t 90) [91] (vY [⟨some 21,none,.alloc 9 120 [.str [],.str [],.str [],i6 0,i6
 0,.str [],i6 0],[]⟩,ST 7 21 91]) (C.block 5 (vY [LD 92 17,O1 93 (.load (some 7)) 21,ON 94 .callv [.t 92,.t 93,.c (i6 (-1)),.c (i6 (-1))]]))))).seq (vU [vN 95 1 20,LD 96 95,MV
 18 96] (C.block 6 (vU [LD 127 19,MV 128 1,O1 129 .len 128,BI 130 .eql 127 129,MV 126 130] (C.cond (.t 126) C.skip (vU [MV 132 13,LD 133 19,O2 134 (.idxA 1) 132 133,LD 135
 134,vP 136 .lss 135 0,MV 131 136] (C.cond (.t 131) (vU [O1 137 (.load (some 4)) 4,vN 138 0 20,LD 139 138,vN 140 1 20,LD 141 140,MV 142 3,ON 143 (.call 83 true) [.t 137,.t
 139,.t 141,.t 142]] (C.block 9 (C.range (.t 143) [144] (vY [⟨some 22,none,.alloc 10 120 [.str [],.str [],.str [],i6 0,i6 0,.str [],i6 0],[]⟩,ST 7 22 144]) (C.block 10 (vY [LD
 145 17,O1 146 (.load (some 7)) 22,LD 147 19,ON 148 .callv [.t 145,.t 146,.t 147,.c (i6 (-1))]]))))) (vU [MV 97 2,MV 98 13,LD 99 19,O2 100 (.idxA 1) 98 99,LD 101 100,O2 102
 (.idxA 4) 97 101,O1 103 (.load (some 4)) 102,⟨some 23,none,.alloc 11 43 [i6 0,.str [],i6 0,.str []],[]⟩,ST 4 23 103] ((C.draw (DT.uni ⟨some 104,none,.call 84 true,[]⟩ (DT.one
 ⟨some 105,none,.fldA 0,[.t 23]⟩ (DT.one ⟨some 106,none,.load none,[.t 105]⟩ (DT.one ⟨some 107,none,.aidx 4 1 none,[.t 104,.t 106]⟩ (DT.one ⟨some 108,none,.load (some 4),[.t 4]⟩
 (DT.one ⟨some 109,none,.load (some 3),[.t 20]⟩ (DT.one ⟨some 110,none,.load (some 4),[.t 23]⟩ (DT.uni ⟨some 111,none,.callv,[.t 107,.t 108,.t 109,.t 110]⟩ (DT.one ⟨some
 112,none,.len,[.t 111]⟩ (DT.one ⟨some 113,none,.mv,[.c (i6 0)]⟩ DT.nil))))))))))).seq (C.block 7 (vU [BI 114 .lss 113 112] ((vW 114 7).seq ((C.block 8 (vU [O2 115 (.idxA 7) 111
 113,O1 116 (.load (some 7)) 115,⟨some 25,none,.alloc 12 120 [.str [],.str [],.str [],i6 0,i6 0,.str [],i6 0],[]⟩,ST 7 25 116] (vY [LD 117 17,O1 118 (.load (some 7)) 25,LD 119
 19,MV 120 13,LD 121 19,O2 122 (.idxA 1) 120 121,LD 123 122,ON 124 .callv [.t 117,.t 118,.t 119,.t 123]]))).seq (vY [vP 125 .add 113 1,MV 113 125])))).loop)))))))))))).seq (vY
 [vP 149 .add 80 1,MV 80 149])))).loop)).seq ((vU [LD 150 16,O1 151 .len 150,vP 152 .gtr 151 1024] (vV 152 (vX [ON 8 (.nilo 1 7 36) [],vO 9 4]))).seq (vX [LD 153 16,MV 8 153,vO
 9 0])))))))))))))
theorem S8:qM Tryz.prog 25 154 16 [RV.tmp 8,RV.tmp 9] qdA:=fi Tryz.f25 [4,8,51,16,17,77,78,19,20,21,22,23,25,54,69,10] qny [16]
end
section
open Go Go.Proofs AF HY LN
namespace RC
def TL(x:Co)(l:List Un)(d:List Dc)(n:Nat):List Int:=(List.range l.length).map λk=>Uo x l d k n
theorem qe3(x:Co)(l:List Un)(d:List Dc)(n:Nat):(TL x l d n).length=l.length:=by unfold TL;simp
theorem qsf{x:Co}{l:List Un}{d:List Dc}{n k:Nat}(hk:k<l.length):(TL x l d n).getD k 0=Uo x l d k n:=by
 unfold TL;rw[gdqA,List.getElem?_map,List.getElem?_range hk];rfl
theorem qyx(x:Co)(l:List Un)(d:List Dc):TL x l d 0=List.replicate l.length (-1):=by
 unfold TL;refine List.ext_getElem (by simp) (λi h1 h2=> ?_);simp[Uo]
theorem qjD{x:Co}{l:List Un}{d:List Dc}{n k:Nat}(hk:k<l.length)(he:FU x l (d.getD n default)=k):TL x l d (n+1)=(TL x l d n).set k (n:Int):=by
 unfold TL;refine List.ext_getElem (by simp) (λi h1 h2=> ?_);rw[List.getElem_set];simp only[List.getElem_map,List.getElem_range]
 by_cases g:k=i
 ·subst g;rw[ipo rfl];unfold Uo;rw[ipo he]
 ·rw[ine g]
  conv=>lhs;unfold Uo
  rw[ine (by rw[he];omega)]
theorem qyK{x:Co}{l:List Un}{d:List Dc}{i:Nat}(hi:i<d.length):(plG x l d d.length).getD i 0=FU x l (d.getD i default):=by
 unfold plG;rw[List.take_length,gdqA,List.getElem?_map,zn hi,gdqA,zn hi];rfl
structure EsS where
 k:Nat
 vb:Nat
 O7:AObj
 O8:AObj
 O9:AObj
 O10:AObj
 O11:AObj
 O12:AObj
def rwK(x:Co)(l:List Un)(d:List Dc)(s k:Nat):List Rw:=if k<=l.length then rwL x l d s k else rwA x l d s
def nxT(x:Co)(l:List Un)(k:Nat):Nat:=if k<=l.length then jb l k else x.col.length
theorem qb8{v n:Nat}{L:List Wd}{ty:TypeId}{fz:Nat->Bool}{h:wh}{d:Nat}(hn:n=L.length):VLe (qec (some (qZ v ty (jB L))) v 7 0 n (rei fz h (d+1))) (jD L):=by
 subst hn;unfold qZ;split
 ·rename_i e
  have:L= []:=by
   cases L with
   |nil=>rfl
   |cons a r=>exact absurd e (by simp[jB,wdC])
  subst this;rw[slOf_emp,ipo rfl];exact qW
 ·rw[slOf_mem,ipo ⟨rfl,by rw[qfx];omega⟩];refine VLe.sl_eq rfl (λi hi=> ?_);simp only[Nat.zero_add];rw[qfw hi];rfl
theorem qy5{x:Co}{l:List Un}{d:List Dc}{s:Nat}: ∀ {j k:Nat},k<=j->(rwL x l d s k).length<=(rwL x l d s j).length:=by
 intro j
 induction j with
 |zero=>
  intro k h;obtain rfl:k=0:=by omega
  exact nlr _
 |succ j ih=>
  intro k h
  by_cases e:k=j+1
  ·subst e;exact nlr _
  ·refine Nat.le_trans (ih (show k<=j by omega)) ?_
   conv=>rhs;unfold rwL
   rw[lap];omega
theorem qkL{x:Co}{l:List Un}{d:List Dc}{s k:Nat}(h:k<=l.length):(rwL x l d s k).length<=(rwA x l d s).length:=by
 refine Nat.le_trans (qy5 h) ?_;unfold rwA;rw[lap];omega
theorem qsD{x:Co}{l:List Un}(ho:CoOk x)(hus:UG x l=true){k:Nat}(hk:k<l.length){o:Dc}(hE:qaW x l o=0): ∀p∈qg8 x l k o,PcF p:=by
 obtain⟨a1,a2,a3,a4,_⟩:=kX hus hk;obtain⟨p1,p2,p3,p4,p5,p6⟩:=Sm hE;intro p hp;unfold qg8 at hp;split at hp
 ·have:=(qbv p4).2.1
  exact Sj ho this om p hp
 ·split at hp
  ·rename_i g;obtain⟨r1,r2,r3,r4⟩:=qeM p6 g;exact qqa r2 p hp
  ·cases hp
theorem qsE{x:Co}{l:List Un}{d:List Dc}{s:Nat}(ho:CoOk x)(hus:UG x l=true)(hs:s<x.sig.length)(hpl: ∀i,i<d.length->qaW x l (d.getD i default)=0){k:Nat}(hk:k<l.length): ∀r∈rwU x l d s k,PcF r.p:=by
 obtain⟨a1,a2,a3,a4,_⟩:=kX hus hk;intro r hr;unfold rwU at hr;split at hr
 ·exact Sj ho hs om _ (zV.1 hr).1
 ·rename_i g
  have:=TK x l d k d.length
  exact qsD ho hus hk (hpl _ om) _ (zV.1 hr).1
theorem qd2{x:Co}{l:List Un}{d:List Dc}{s:Nat}(ho:CoOk x)(hus:UG x l=true)(hs:s<x.sig.length)(hpl: ∀i,i<d.length->qaW x l (d.getD i default)=0): ∀ {k:Nat},k<=l.length-> ∀r∈rwL x l d s k,PcF r.p:=by
 intro k
 induction k with
 |zero=>intro _ r hr;cases hr
 |succ k ih=>
  intro hk r hr;obtain⟨a1,a2,a3,a4,_⟩:=kX hus (show k<l.length by omega);have a5:=qdb hus (show k<l.length by omega);unfold rwL at hr;rcases List.mem_append.1 hr with hr|hr
  ·exact ih om r hr
  ·rcases List.mem_append.1 hr with hr|hr
   ·exact Sj ho hs om _ (zV.1 hr).1
   ·exact qsE ho hus hs hpl om r hr
theorem qDE{hh:wh}{j k v w:Nat}(n:Nat)(a:Int)(cs:wi)(hj:qr j hh=some (.mem v 3 (.int .i64 a::cs)))(hk:qr k hh=some (.emp w))(h0:0<n)(hl:n<=1000000000):
  ACalls Tryz.prog 79 [.osl j v 1 0 1,.int .i64 (n:Int)] hh (.osl k (w+1) 1 0 n) (qq k (qq j hh (.emp (v+1))) (.mem (w+1) 3 (qP (List.replicate n a)))):=by
 have hne:j≠k:=λe=>by subst e;rw[hj]at hk;cases hk
 have hs:qJ hh j=true:=by unfold qJ;rw[hj]
 have e1:qaU [j] hh=qq j hh (.emp (v+1)):=by show qq j hh (.emp (qn (qr j hh)+1))=_;rw[hj];rfl
 have hk1:qr k (qq j hh (.emp (v+1)))=some (.emp w):=by rw[qH (λe=>hne e.symm)];exact hk
 refine ACalls.frzd [j] (by show (qJ hh j&&true)=true;rw[hs];rfl) ?_;rw[e1];have h1:=qDF a n (qq j hh (.emp (v+1))) k (by unfold qJ;rw[hk1]) h0 hl;rw[hk1]at h1;refine h1.le ⟨?_,qi,trivial⟩ (qi);have hc:=qG hj;have e: [j].contains j=true:=by simp
 simp only[go_sem,e,if_true,hc];rw[hj,slOf_mem,ipo ⟨rfl,by simp⟩];refine VLe.sl_eq rfl (λi hi=> ?_);obtain rfl:i=0:=by omega
 rfl
theorem qC5(x:Co)(l:List Un)(d:List Dc)(s:Int)(h:wh)(hz:qaN x)(hu:qbx l)(hp:kY SG h)(hg:jh h frmN frmC)(hl0:l≠ [])(hd:d.length<=1000000)(ht: ∀o∈d,o.txt.length<=1000)(hN0:vaE x l=0->(rwA x l d s.toNat).length<=1000000000):
  ACalls Tryz.prog 25 [.agg (coC x),zA l,kz d,.int .i64 s] h (.tup [jD (esR x l d s),.int .i64 (esE x l d s)]) h:=by
 have c1:=λl'=>qq8 x l (h++l') hz hu (hp.app l')
 have zu: ∀g l,valL g .len [zA l]= .int .i64 l.length:=λ_ _=>rfl
 have zv: ∀g l,okL g .len [zA l]=True:=λ_ _=>eqt trivial
 have zu1: ∀g l,valL g .len [strs l]= .int .i64 l.length:=λ_ _=>rfl
 have zv1: ∀g l,okL g .len [strs l]=True:=λ_ _=>eqt trivial
 have hE:esE x l d s=(if vaE x l≠0 then vaE x l else if s<0∨(x.sig.length:Int)<=s then 2 else if Ur x l d≠0 then Ur x l d else if 1024<(rwA x l d s.toNat).length then 4 else 0):=rfl;unfold esR
 by_cases g:vaE x l=0
 case neg=>
  have k1:(vaE x l=0)=False:=eqf g;rw[ipo g]at hE;rw[hE,ine g];unfold coC at c1;refine acO S8 ?_;simp (disch:=omega) only[qdA,coC,go_sem]
  repeat' first|(refine cA (c1 _) flk ?_;simp (disch:=omega) only[k1,go_sem])|(apply qa;exact rvk;simp only[go_sem])
  exact VLe.tup ⟨qW,qi,trivial⟩
 rw[ine (by simpa using g)]at hE;have hN:=hN0 g;simp only[g]at c1;obtain⟨hca,hus,hcv⟩:=qdu g;have ho:=SU hca
 by_cases g2:s<0
 ·have k2:(s<0)=True:=eqt g2;rw[ipo (.inl g2)]at hE;rw[hE,ine (by decide)];unfold coC at c1;refine acO S8 ?_;simp (disch:=omega) only[qdA,coC,go_sem]
  repeat' first|(refine cA (c1 _) flk ?_;simp (disch:=omega) only[k2,go_sem])|(apply qa;exact rvk;simp only[go_sem])
  exact VLe.tup ⟨qW,qi,trivial⟩
 have k2:(s<0)=False:=eqf g2
 by_cases g3:(x.sig.length:Int)<=s
 ·have k3:((x.sig.length:Int)<=s)=True:=eqt g3;rw[ipo (.inr g3)]at hE;rw[hE,ine (by decide)];unfold coC at c1;refine acO S8 ?_;simp (disch:=omega) only[qdA,coC,go_sem]
  repeat' first|(refine cA (c1 _) flk ?_;simp (disch:=omega) only[k2,k3,zu1,zv1,go_sem])|(apply qa;exact rvk;simp only[go_sem])
  exact VLe.tup ⟨qW,qi,trivial⟩
 have k3:((x.sig.length:Int)<=s)=False:=eqf g3;rw[ine (λe=>e.elim g2 g3)]at hE;have c2:=λl'=>qBG x l d (h++l') hz hu (hp.app l') hg.app hca hd ht
 unfold qyN at c2
 by_cases g4:Ur x l d=0
 case neg=>
  have k4:(Ur x l d=0)=False:=eqf g4;simp only[ine g4]at c2;rw[ipo g4]at hE;rw[hE,ine g4];unfold coC at c1 c2;refine acO S8 ?_;simp (disch:=omega) only[qdA,coC,go_sem]
  repeat' first|((first|refine cA (c1 _) ?_ ?_|refine cA (c2 _) ?_ ?_);exact flk;simp (disch:=omega) only[k2,k3,k4,zu1,zv1,go_sem])|(apply qa;exact rvk;simp only[go_sem])|with_reducible apply aiA|exact clz|fail
  exact VLe.tup ⟨qW,qi,trivial⟩
 rw[ine (by simpa using g4)]at hE;simp only[g4,if_true]at c2;rw[hE];unfold coC at c1 c2;refine acO S8 ?_;simp (disch:=omega) only[qdA,coC,go_sem]
 repeat' first|((first|refine cA (c1 _) ?_ ?_|refine cA (c2 _) ?_ ?_);exact flk;simp (disch:=omega) only[k2,k3,zu1,zv1,zu,zv,go_sem])|with_reducible apply aiA|exact clz|fail
 have hlp:0<l.length:=List.length_pos_iff.2 hl0;refine qv (qDE (j:=h.length+2) (k:=h.length+13) (w:=0) l.length (-1) (List.drop 1 (zQ [.int .i64 0] 1)) ?j1 ?j2 hlp hu.n) (by exact flk) ?_
 case j1=>simp only[go_sem]
 case j2=>simp only[go_sem]
 have zi: ∀g l,valL g .len [qy l]= .int .i64 l.length:=λ_ _=>rfl
 have zj: ∀g l,okL g .len [qy l]=True:=λ_ _=>eqt trivial
 have ePL:(plG x l d d.length).length=d.length:=by unfold plG;rw[List.length_map,List.take_length]
 simp (disch:=omega) only[zi,zj,ePL,go_sem];rw[<-qyx x l d];have hpl: ∀i,i<d.length->qaW x l (d.getD i default)=0:=by
  have:=g4
  unfold Ur at this;split at this
  ·cases this
  ·intro i hi;exact jq.1 this i hi
 refine qu (T:=λi:Nat=>zf 154 [(1,zA l),(2,kz d),(3,.int .i64 s),(4,.op h.length 1 0),(13,.osl (h.length+13) 1 1 0 l.length),(55,.sl d.length λi=> [.int .i64 ((plG x l d d.length).getD i 0)]),(56,.int .i64 d.length),(57,.int .i64 i)])
  (H:=λi=>h++ [.mem 1 26 [.str x.sec,strs x.sig,qm x.tok,qp x.col],.emp 1,.emp 2,.emp 0,.emp 0,.emp 0,.emp 0,.emp 0,.emp 0,.emp 0,.emp 0,.emp 0,.emp 0,.mem 1 3 (qP (TL x l d i)),.emp 0,.emp 0])
  (inv:=λi=>i<=d.length) (m:=λi=>d.length-i) 0 (nzl _) (Wk.temps ?_) ?_
 ·(simp only[go_sem,qg,qc,qb,qf];try (repeat' first|(with_reducible apply aiA)|(apply qh;omega)|(apply qd;rfl)|exact qi))
  have eI:qy (plG x l d d.length)= .sl d.length λi=> [.int .i64 ((plG x l d d.length).getD i 0)]:=by unfold qy;rw[ePL]
  rw[eI];exact qi
 rintro i i1 K hK;have hll:=qe3 x l d i;have hlc:=jk (TL x l d i)
 by_cases hi:i<d.length
 ·have q1:((i:Int)<d.length)=True:=wj;have q2:(0<=(i:Int))=True:=wj;have e0:=hpl i hi;obtain⟨_,_,_,_,p5,_⟩:=Sm e0;obtain⟨k,hk⟩: ∃k:Nat,FU x l (d.getD i default)=k:=⟨(FU x l (d.getD i default)).toNat,om⟩
  have hkl:k<l.length:=by
   have:=(qav l (gm x (zR x (d.getD i default).sig).toNat (d.getD i default).tok)).2
   have h2:fnU l (gm x (zR x (d.getD i default).sig).toNat (d.getD i default).tok)=k:=hk;omega
  have q3:((k:Int)<l.length)=True:=wj;have q4:(0<=(k:Int))=True:=wj;have eA:=qyK (x:=x) (l:=l) hi;rw[hk]at eA;have hst:=qjD (n:=i) hkl hk;simp (disch:=omega) only[q1,q2,q3,q4,eA,hlc,hll,go_sem]
  repeat' first|with_reducible apply aiA|exact clz|fail
  have eB:List.take k (qP (TL x l d i))++ [AV.int .i64 (i:Int)]++List.drop (k+1) (qP (TL x l d i))=qP (TL x l d (i+1)):=by
   rw[hst];unfold qP;rw[List.set_eq_take_append_cons_drop,ipo (by rw[hll];exact hkl)];simp[List.map_append,List.map_take,List.map_drop]
  rw[eB];refine hK _ _ (i+1) hi om (Wk.temps ?_)
  (simp only[go_sem,qg,qc,qb,qf];try exact we)
 ·have q1:((i:Int)<d.length)=False:=wm;obtain rfl:i=d.length:=by omega
  simp (disch:=omega) only[q1,go_sem];refine⟨_,_,Wk.ownNil (j:=h.length+3) (i:=0) (k:=h.length+15) (v:=1) (ty:=29) (cs:= [.nl]) (ve:=0) (sz:=7) ?m1 rfl ?m2,?_⟩
  case m1=>simp only[go_sem]
  case m2=>simp only[go_sem]
  have s1:=λh=>qla h l
  have eP:=qah l;simp (disch:=omega) only[List.set_cons_zero,go_sem];have hun:=hu.n;have bne5:(h.length+14 !=h.length+5)=true:=by simp
  have zc: ∀g l,valL g .len [qp l]= .int .i64 l.length:=λ_ _=>rfl
  have zd: ∀g l,okL g .len [qp l]=True:=λ_ _=>eqt trivial
  refine jV ?T ?H ?h1 ?h2
  case h1=>
   simp (disch:=omega) only[List.set_cons_zero,zc,zd,go_sem]
   repeat' first|(with_reducible apply aiA)|(refine qv (qC0 l _ (h.length+14) (by simp only[go_sem]) hl0 hu.n) (by exact flk) ?_;simp (disch:=omega) only[List.set_cons_zero,eP,zc,zd,go_sem])
   all_goals first
    |omega
    |rfl
    |exact bne5
  case h2=>
  simp (disch:=omega) only[go_sem];obtain⟨S,hS⟩: ∃S:Nat,s=S:=⟨s.toNat,om⟩
  subst hS;rw[itn]at hN ⊢;have hSl:S<x.sig.length:=by omega
  have eTk:List.take (l.length*3) (SO l)=SO l:=ltl om;rw[eTk];obtain⟨MC,hMC⟩:=wg (SO l++ [AV.int .i64 x.col.length,.int .i64 x.col.length,.nl])
  have hMl:MC.length=(l.length+1)*3:=by rw[hMC];simp[eP];omega
  have eM1: ∀k,k<l.length->List.take 3 (List.drop (k*3) MC)=unC (l.getD k default):=λk hk=>by
   rw[hMC,List.drop_append_of_le_length om,List.take_append_of_le_length (by rw[List.length_drop];omega)];exact qfs hk
  have eM2:List.take 3 (List.drop (l.length*3) MC)= [AV.int .i64 x.col.length,.int .i64 x.col.length,.nl]:=by
   rw[hMC,List.drop_append,List.drop_eq_nil_of_le om,lna,eP,Nat.sub_self];rfl
  rw[<-hMC];obtain⟨O5,hO5⟩:=wg (AObj.mem 1 64 (AV.int .i64 x.col.length:: .int .i64 x.col.length:: .nl::List.drop 3 (zQ [.int .i64 0,.int .i64 0,.nl] 1)))
  rw[<-hO5];obtain⟨LST,hLST⟩: ∃L,L=AObj.mem 1 3 (qP (TL x l d d.length)):=⟨_,rfl⟩
  have hll:=qe3 x l d d.length;have hlc:=jk (TL x l d d.length);obtain⟨X0,hX0⟩:=wg (AObj.mem 1 26 [.str x.sec,strs x.sig,qm x.tok,qp x.col])
  have lX0: ∀n,lowO n X0:=by
   intro n;rw[hX0];intro c hc;simp at hc;rcases hc with rfl|rfl|rfl|rfl<;>rfl
  refine qu (T:=λi:EsS=>zf 154 [(1,zA l),(2,kz d),(3,.int .i64 (S:Int)),(4,.op h.length 1 0),(13,.osl (h.length+13) 1 1 0 l.length),(16,.op (h.length+3) 1 0),(17,.op (h.length+4) 1 0),(18,.int .i64 (nxT x l i.k:Int)),(78,.osl (h.length+14) 2 3 0 (l.length+1)),(79,.int .i64 ((l.length+1:Nat):Int)),(80,.int .i64 i.k)])
   (H:=λi=>h++ [.mem 1 26 [.str x.sec,strs x.sig,qm x.tok,qp x.col],.emp 1,.emp 2,.mem 1 29 [.osl (h.length+15) i.vb 7 0 (rwK x l d S i.k).length],.mem 1 121 [.fn (.func 80) [] [.op (h.length+3) 1 0]],O5,.emp 0,i.O7,i.O8,i.O9,i.O10,i.O11,i.O12,.mem 1 3 (qP (TL x l d d.length)),.mem 2 64 MC,qZ i.vb 36 (jB (bsW (rwK x l d S i.k)))])
   (inv:=λi=>i.k<=l.length+1∧ ∀O∈ [i.O7,i.O8,i.O9,i.O10,i.O11,i.O12],qJ [O] 0=true∧ ∀n,lowO n O) (m:=λi=>l.length+1-i.k) ⟨0,0,.emp 0,.emp 0,.emp 0,.emp 0,.emp 0,.emp 0⟩ ⟨nzl _,λO hO=>by
    simp at hO;subst hO;exact⟨rfl,λ_=>trivial⟩⟩ (Wk.temps ?_) ?_
  ·(simp only[go_sem,qg,qc,qb,qf];try (repeat' first|(with_reducible apply aiA)|(apply qh;omega)|(apply qd;rfl)|exact qi))
   done
  rintro⟨k,vb,O7,O8,O9,O10,O11,O12⟩ ⟨i1,i2⟩ K hK;simp only at i1 i2 hK;obtain⟨s7,l7⟩:=i2 O7 (by simp);obtain⟨s8,l8⟩:=i2 O8 (by simp);obtain⟨s9,l9⟩:=i2 O9 (by simp);obtain⟨s10,l10⟩:=i2 O10 (by simp);obtain⟨s11,l11⟩:=i2 O11 (by simp);obtain⟨s12,l12⟩:=i2 O12 (by simp);have s7': ∀m,qJ (O7::m) 0=true:=λ_=>s7
  have s8': ∀m,qJ (O8::m) 0=true:=λ_=>s8
  by_cases hk:k<=l.length
  case neg=>
   have q1:((k:Int)<((l.length+1:Nat):Int))=False:=wm;have eR:rwK x l d S k=rwA x l d S:=by unfold rwK;rw[ine hk]
   rw[eR]
   by_cases g5:1024<(rwA x l d S).length
   ·have q5:((1024:Int)<(rwA x l d S).length)=True:=wj;simp only[ipo g5];simp (disch:=omega) only[q1,q5,go_sem]
    repeat' first|(apply qa;exact rvk;simp only[go_sem])|with_reducible apply aiA|exact clz|fail
    exact VLe.tup ⟨qW,qi,trivial⟩
   ·have q5:((1024:Int)<(rwA x l d S).length)=False:=wm;simp only[ine g5];simp (disch:=omega) only[q1,q5,go_sem]
    repeat' first|(apply qa;exact rvk;simp only[go_sem])|with_reducible apply aiA|exact clz|fail
    exact VLe.tup ⟨qb8 (km _).symm,qi,trivial⟩
  have q1:((k:Int)<((l.length+1:Nat):Int))=True:=wj;have q2:(0<=(k:Int))=True:=wj;have q3:(k*3+3<=MC.length)=True:=wj;have eR:rwK x l d S k=rwL x l d S k:=by unfold rwK;rw[ipo hk]
  have eN:nxT x l k=jb l k:=by unfold nxT;rw[ipo hk]
  rw[eR,eN];obtain⟨f,t',RV,eM,a5,a6,lRV,hA,hB⟩: ∃(f t':Nat) (RV:AV),List.take 3 (List.drop (k*3) MC)= [.int .i64 (f:Int),.int .i64 (t':Int),RV]∧jb l k<=f∧f<=x.col.length∧(∀n,qS n RV=true)∧(k<l.length->f=frN l k∧t'=toN l k∧RV=kf (l.getD k default).rds)∧(k=l.length->f=x.col.length∧t'=x.col.length):=by
   by_cases hkl:k<l.length
   ·obtain⟨a1,a2,a3,a4,_⟩:=kX hus hkl;have eM:=eM1 k hkl;unfold unC at eM;rw[a1,a2]at eM;exact⟨frN l k,toN l k,_,eM,qdb hus hkl,om,λ_=>rfl,λ_=>⟨rfl,rfl,rfl⟩,λe=>by omega⟩
   ·obtain rfl:k=l.length:=by omega
    exact⟨x.col.length,x.col.length,.nl,eM2,qaF hus (nlr _),nlr _,λ_=>rfl,λe=>by omega,λ_=>⟨rfl,rfl⟩⟩
  have c3:=λh=>qzn x (jb l k) f S h
  have hit:=itS x S (jb l k) f hz ho hSl a6 a5;have hpF:=Sj ho hSl (f:=jb l k) (d:=f-jb l k) om;obtain⟨ps,hps⟩:=wg (spk x S (jb l k) (f-jb l k))
  have hxl:(spX x S (jb l k) (f-jb l k))=ps.map λp=> [.agg (pcC p)]:=by unfold spX;rw[hps]
  rw[hxl]at hit;rw[<-hps]at hpF;unfold coC at c3 hit;simp (disch:=omega) only[q1,q2,q3,eM,s7',s8',go_sem]
  repeat' first|(refine cA (c3 _) flk ?_;simp (disch:=omega) only[go_sem])
  obtain⟨L0,hL0⟩:=wg (rwL x l d S k)
  have hLF: ∀r∈L0,PcF r.p:=by rw[hL0];exact qd2 ho hus hSl hpl hk
  have hLn:(L0++rwM ps (-1) (-1)).length<=1000000000:=by
   refine Nat.le_trans ?_ hN
   by_cases hkl:k<l.length
   ·obtain⟨b1,_⟩:=hA hkl;refine Nat.le_trans ?_ (qkL (show k+1<=l.length by omega));rw[hL0,hps,b1]
    conv=>rhs;unfold rwL
    rw[lap,lap,lap];show _<=_+((rwM _ _ _).length+_);omega
   ·obtain⟨b1,_⟩:=hB om;have hke:k=l.length:=by omega
    rw[hL0,hps,b1,hke];exact nlr _
  rw[<-hL0];obtain⟨P7,hP7⟩:=wg (AObj.mem (qn (some O7)+1) 3 [.int .i64 (k:Int)])
  obtain⟨P8,hP8⟩:=wg (AObj.mem (qn (some O8)+1) 64 [.int .i64 (f:Int),.int .i64 (t':Int),RV])
  have hP7l:qJ [P7] 0=true∧ ∀n,lowO n P7:=by
   rw[hP7];refine⟨rfl,λn c hc=> ?_⟩;rw[List.mem_singleton]at hc;subst hc;rfl
  have hP8l:qJ [P8] 0=true∧ ∀n,lowO n P8:=by
   rw[hP8];refine⟨rfl,λn c hc=> ?_⟩;simp only[List.mem_cons,List.not_mem_nil,or_false]at hc;rcases hc with rfl|rfl|rfl
   ·rfl
   ·rfl
   ·exact lRV n
  have cP7: ∀m,cellsOf (P7::m) 0 (qn (some O7)+1)=some [.int .i64 (k:Int)]:=λm=>by rw[hP7];simp only[go_sem]
  rw[<-hP7,<-hP8];have lP: ∀L:List Rw,∀v n,lowO n (qZ v 36 (jB (bsW L))):=λL v n=>ji (qai _ n)
  have hLow: ∀(L M:List Rw) (v w:Nat) O A,(∀n,lowO n A)->LowI (h++ [.mem 1 26 [.str x.sec,strs x.sig,qm x.tok,qp x.col],.emp 1,.emp 2,.mem 1 29 [.osl (h.length+15) w 7 0 M.length],.mem 1 121 [.fn (.func 80) [] [.op (h.length+3) 1 0]],O5,.emp 0,P7,P8,O,O10,O11,O12,.mem 1 3 (qP (TL x l d d.length)),.mem 2 64 MC,qZ w 36 (jB (bsW M))])
    (h++ [.mem 1 26 [.str x.sec,strs x.sig,qm x.tok,qp x.col],.emp 1,.emp 2,.mem 1 29 [.osl (h.length+15) v 7 0 L.length],.mem 1 121 [.fn (.func 80) [] [.op (h.length+3) 1 0]],O5,.emp 0,P7,P8,A,O10,O11,O12,.mem 1 3 (qP (TL x l d d.length)),.mem 2 64 MC,qZ v 36 (jB (bsW L))]):=λL M v w O A lA=>by
   refine⟨by simp,λo ho=> ?_⟩;rcases List.mem_append.1 ho with h1|h1
   ·exact .inl (List.mem_append_left _ h1)
   ·simp only[List.mem_cons,List.not_mem_nil,or_false]at h1;rcases h1 with rfl|rfl|rfl|rfl|rfl|rfl|rfl|rfl|rfl|rfl|rfl|rfl|rfl|rfl|rfl|rfl
    ·left;simp
    ·left;simp
    ·left;simp
    ·right;refine⟨λc hc=> ?_,λc hc=> ?_⟩<;>
     ·rw[List.mem_singleton]at hc;subst hc;simp[qS]
      try omega
    ·left;simp
    ·left;simp
    ·left;simp
    ·left;simp
    ·left;simp
    ·right;exact⟨lA _,lA _⟩
    ·left;simp
    ·left;simp
    ·left;simp
    ·left;simp
    ·left;simp
    ·right;exact⟨lP _ _ _,lP _ _ _⟩
  refine zh hit (λa ha=> ?_)
   (S:=λi hh=> ∃A,qJ [A] 0=true∧(∀n,lowO n A)∧hh=h++ [.mem 1 26 [.str x.sec,strs x.sig,qm x.tok,qp x.col],.emp 1,.emp 2,.mem 1 29 [.osl (h.length+15) (vb+i) 7 0 (L0++rwM (ps.take i) (-1) (-1)).length],.mem 1 121 [.fn (.func 80) [] [.op (h.length+3) 1 0]],O5,.emp 0,P7,P8,A,O10,O11,O12,.mem 1 3 (qP (TL x l d d.length)),.mem 2 64 MC,qZ (vb+i) 36 (jB (bsW (L0++rwM (ps.take i) (-1) (-1))))]) (E:=λ_ _=>False) ?_ ?_ ?_ ?_ ?_ ?_ ?_
  ·obtain⟨c,_,rfl⟩:=List.mem_map.1 ha;rfl
  ·rintro i hh ⟨A,_,lA,rfl⟩;exact hLow _ _ _ _ _ _ lA
  ·intro s hh hf;exact hf.elim
  ·exact⟨O9,s9,l9,by simp[rwM]⟩
  ·simp[qS,qS.lowVs]
   repeat' apply aiA
   all_goals first|rfl|omega|exact lRV _
  ·rintro i hh tl LI TS hi ⟨A,sA,lA,rfl⟩ hlen K1 K2 hK1 hN1 hR1 hX1;have hi':i<ps.length:=by rw[List.length_map]at hi;exact hi
   rw[List.getElem_map];have sA': ∀m,qJ (A::m) 0=true:=λ_=>sA
   have hS:L0++rwM (ps.take (i+1)) (-1) (-1)=(L0++rwM (ps.take i) (-1) (-1))++ [⟨ps.getD i default,-1,-1⟩]:=by
    unfold rwM;rw[List.take_add_one,zn hi',List.map_append,gdqA,zn hi',List.append_assoc];rfl
   have eG:ps[i]=ps.getD i default:=by rw[gdqA,zn hi'];rfl
   rw[eG];have hpm:ps.getD i default∈ps:=zJ hi';obtain⟨p,hp'⟩:=wg (ps.getD i default)
   rw[<-hp']at hS hpm ⊢;obtain⟨M,hM⟩:=wg (L0++rwM (ps.take i) (-1) (-1))
   have hMF: ∀r∈M,PcF r.p:=λr hr=>by
    rw[hM]at hr;rcases List.mem_append.1 hr with hr|hr
    ·exact hLF r hr
    ·exact hpF _ (List.mem_of_mem_take (zV.1 hr).1)
   have hMn:M.length<=1000000000:=by
    rw[hM,lap,jG,List.length_take];rw[lap,jG]at hLn;omega
   rw[<-hM]at hS ⊢;simp only[kg,List.append_assoc,lca,lna];simp (disch:=omega) only[sA',pcC,tkC,go_sem];refine hK1 _ _ (h++ [.mem 1 26 [.str x.sec,strs x.sig,qm x.tok,qp x.col],.emp 1,.emp 2,.mem 1 29 [.osl (h.length+15) (vb+i) 7 0 M.length],.mem 1 121 [.fn (.func 80) [] [.op (h.length+3) 1 0]],O5,.emp 0,P7,P8,(.mem (qn (some A)+1) 120 (pcC p)),O10,O11,O12,.mem 1 3 (qP (TL x l d d.length)),.mem 2 64 MC,qZ (vb+i) 36 (jB (bsW M))]) ?_ ?_ ?_
   ·simp[pcC,tkC]
   ·simp
   ·simp only[List.append_assoc,lca,lna];simp (disch:=omega) only[pcC,tkC,go_sem]
    repeat' first|with_reducible apply aiA|exact clz|fail
    refine qO (quy (a:=h.length+3) (b:=h.length+15) (c:=h.length) (va:=1) (vb:=vb+i) (Z:= .mem 1 26 [.str x.sec,strs x.sig,qm x.tok,qp x.col]) ⟨by simp,by simp,by simp,om,om,om⟩ M p (-1) (-1) (by simp only[go_sem]) (by simp only[go_sem]) (by simp only[go_sem]) (by rw[<-hX0];exact lX0) (hpF p hpm) hMn hMF) ?_;simp (disch:=omega) only[go_sem];refine hN1 _ _ (h++ [.mem 1 26 [.str x.sec,strs x.sig,qm x.tok,qp x.col],.emp 1,.emp 2,.mem 1 29 [.osl (h.length+15) (vb+(i+1)) 7 0 (M++ [(⟨p,-1,-1⟩:Rw)]).length],.mem 1 121 [.fn (.func 80) [] [.op (h.length+3) 1 0]],O5,.emp 0,P7,P8,(.mem (qn (some A)+1) 120 (pcC p)),O10,O11,O12,.mem 1 3 (qP (TL x l d d.length)),.mem 2 64 MC,qZ (vb+(i+1)) 36 (jB (bsW (M++ [(⟨p,-1,-1⟩:Rw)])))]) ?_ ?_ ⟨_,rfl,?_,by rw[hS]⟩
    ·simp[pcC,tkC,Nat.add_assoc]
    ·simp
    ·intro n c hc;simp[pcC,tkC]at hc;rcases hc with rfl|rfl|rfl|rfl|rfl|rfl|rfl<;>rfl
  ·rintro hh ⟨A,sA,lA,rfl⟩;rw[List.length_map,List.take_length];obtain⟨L1,hL1⟩:=wg (L0++rwM ps (-1) (-1))
   rw[<-hL1]
   by_cases hkl:k<l.length
   case neg=>
    have hke:k=l.length:=by omega
    obtain⟨b1,b2⟩:=hB hke;have q4:((k:Int)=l.length)=True:=wj;rw[hP7,hP8];simp (disch:=omega) only[q4,zu,zv,go_sem]
    repeat' first|with_reducible apply aiA|exact clz|fail
    rw[<-hP7,<-hP8];have e1:rwK x l d S (k+1)=L1:=by
     unfold rwK;rw[ine om,hL1,hL0,hps,b1,hke];rfl
    have e2:nxT x l (k+1)=t':=by unfold nxT;rw[ine om,b2]
    refine hK _ _ ⟨k+1,vb+ps.length,P7,P8,A,O10,O11,O12⟩ ⟨by simp only;omega,λO hO=> ?_⟩ (by simp only;omega) ?_
    ·simp only[List.mem_cons,List.not_mem_nil,or_false]at hO;rcases hO with rfl|rfl|rfl|rfl|rfl|rfl
     ·exact hP7l
     ·exact hP8l
     ·exact⟨sA,lA⟩
     ·exact⟨s10,l10⟩
     ·exact⟨s11,l11⟩
     ·exact⟨s12,l12⟩
    ·simp only[e1,e2];refine Wk.temps ?_
     (simp only[go_sem,qg,qc,qb,qf];try exact we)
   obtain⟨b1,b2,b3⟩:=hA hkl;have q4:((k:Int)=l.length)=False:=wm;have q5:((k:Int)<l.length)=True:=wj;have q6:(k<l.length)=True:=eqt hkl;have eLs:(qP (TL x l d d.length))[k]? =some (.int .i64 (Uo x l d k d.length)):=by
    unfold qP
    have:=qsf (x:=x) (d:=d) (n:=d.length) hkl
    rw[List.getElem?_map,zn (by rw[hll];exact hkl)];rw[gdqA,zn (by rw[hll];exact hkl)]at this;rw[<-this];rfl
   obtain⟨D,hD⟩:=wg (Uo x l d k d.length)
   rw[<-hD]at eLs;rw[hP7,hP8]
   by_cases g6:D<0
   ·have q7:(D<0)=True:=eqt g6;have c4:=λh=>qzn x f t' S h
    unfold coC at c4;simp (disch:=omega) only[q2,q4,q5,q6,q7,hlc,hll,eLs,zu,zv,go_sem]
    repeat' first|(refine cA (c4 _) flk ?_;simp (disch:=omega) only[go_sem])|with_reducible apply aiA|exact clz|fail
    rw[<-hP7,<-hP8];obtain⟨A0,hA0⟩:=wg A
    rw[<-hA0];obtain⟨vc,hvc⟩:=wg (vb+ps.length)
    rw[<-hvc];obtain⟨_,_,a3,a4,_⟩:=kX hus hkl;have hit2:=itS x S f t' hz ho hSl om om;have hpF2:=Sj ho hSl (f:=f) (d:=t'-f) om;obtain⟨qs,hqs⟩:=wg (spk x S f (t'-f))
    have hxl2:(spX x S f (t'-f))=qs.map λp=> [.agg (pcC p)]:=by unfold spX;rw[hqs]
    rw[hxl2]at hit2;rw[<-hqs]at hpF2;unfold coC at hit2;have eR1:rwK x l d S (k+1)=L1++rwM qs (k:Int) (-1):=by
     unfold rwK;rw[ipo om];show rwL x l d S k++(rwC x S (jb l k) (frN l k)++rwU x l d S k)=_;unfold rwU;rw[ipo (by rw[<-hD];exact g6),hL1,hL0,hps,hqs,b1,b2,List.append_assoc];rfl
    have hLF2: ∀r∈L1,PcF r.p:=λr hr=>by
     rw[hL1]at hr;rcases List.mem_append.1 hr with hr|hr
     ·exact hLF r hr
     ·exact hpF _ (zV.1 hr).1
    have hLn2:(L1++rwM qs (k:Int) (-1)).length<=1000000000:=by
     rw[<-eR1];unfold rwK;rw[ipo om];exact Nat.le_trans (qkL (show k+1<=l.length by omega)) hN
    have hLow2: ∀(L M:List Rw) (v w:Nat) O A,(∀n,lowO n A)->LowI (h++ [.mem 1 26 [.str x.sec,strs x.sig,qm x.tok,qp x.col],.emp 1,.emp 2,.mem 1 29 [.osl (h.length+15) w 7 0 M.length],.mem 1 121 [.fn (.func 80) [] [.op (h.length+3) 1 0]],O5,.emp 0,P7,P8,A0,O,O11,O12,.mem 1 3 (qP (TL x l d d.length)),.mem 2 64 MC,qZ w 36 (jB (bsW M))])
      (h++ [.mem 1 26 [.str x.sec,strs x.sig,qm x.tok,qp x.col],.emp 1,.emp 2,.mem 1 29 [.osl (h.length+15) v 7 0 L.length],.mem 1 121 [.fn (.func 80) [] [.op (h.length+3) 1 0]],O5,.emp 0,P7,P8,A0,A,O11,O12,.mem 1 3 (qP (TL x l d d.length)),.mem 2 64 MC,qZ v 36 (jB (bsW L))]):=λL M v w O A lA=>by
     refine⟨by simp,λo ho=> ?_⟩;rcases List.mem_append.1 ho with h1|h1
     ·exact .inl (List.mem_append_left _ h1)
     ·simp only[List.mem_cons,List.not_mem_nil,or_false]at h1;rcases h1 with rfl|rfl|rfl|rfl|rfl|rfl|rfl|rfl|rfl|rfl|rfl|rfl|rfl|rfl|rfl|rfl
      ·left;simp
      ·left;simp
      ·left;simp
      ·right;refine⟨λc hc=> ?_,λc hc=> ?_⟩<;>
       ·rw[List.mem_singleton]at hc;subst hc;simp[qS]
        try omega
      ·left;simp
      ·left;simp
      ·left;simp
      ·left;simp
      ·left;simp
      ·left;simp
      ·right;exact⟨lA _,lA _⟩
      ·left;simp
      ·left;simp
      ·left;simp
      ·left;simp
      ·right;exact⟨lP _ _ _,lP _ _ _⟩
    refine zh hit2 (λa ha=> ?_)
     (S:=λi hh=> ∃A,qJ [A] 0=true∧(∀n,lowO n A)∧hh=h++ [.mem 1 26 [.str x.sec,strs x.sig,qm x.tok,qp x.col],.emp 1,.emp 2,.mem 1 29 [.osl (h.length+15) (vc+i) 7 0 (L1++rwM (qs.take i) (k:Int) (-1)).length],.mem 1 121 [.fn (.func 80) [] [.op (h.length+3) 1 0]],O5,.emp 0,P7,P8,A0,A,O11,O12,.mem 1 3 (qP (TL x l d d.length)),.mem 2 64 MC,qZ (vc+i) 36 (jB (bsW (L1++rwM (qs.take i) (k:Int) (-1))))]) (E:=λ_ _=>False) ?_ ?_ ?_ ?_ ?_ ?_ ?_
    ·obtain⟨c,_,rfl⟩:=List.mem_map.1 ha;rfl
    ·rintro i hh ⟨A,_,lA,rfl⟩;exact hLow2 _ _ _ _ _ _ lA
    ·intro s hh hf;exact hf.elim
    ·exact⟨O10,s10,l10,by simp[rwM]⟩
    ·simp[qS,qS.lowVs]
     repeat' apply aiA
     all_goals first|rfl|omega|exact lRV _
    ·rintro i hh tl LI TS hi ⟨A,sA,lA,rfl⟩ hlen K1 K2 hK1 hN1 hR1 hX1;have hi':i<qs.length:=by rw[List.length_map]at hi;exact hi
     rw[List.getElem_map];have sA': ∀m,qJ (A::m) 0=true:=λ_=>sA
     have hS:L1++rwM (qs.take (i+1)) (k:Int) (-1)=(L1++rwM (qs.take i) (k:Int) (-1))++ [⟨qs.getD i default,(k:Int),-1⟩]:=by
      unfold rwM;rw[List.take_add_one,zn hi',List.map_append,gdqA,zn hi',List.append_assoc];rfl
     have eG:qs[i]=qs.getD i default:=by rw[gdqA,zn hi'];rfl
     rw[eG];have hpm:qs.getD i default∈qs:=zJ hi';obtain⟨p,hp'⟩:=wg (qs.getD i default)
     rw[<-hp']at hS hpm ⊢;obtain⟨M,hM⟩:=wg (L1++rwM (qs.take i) (k:Int) (-1))
     have hMF: ∀r∈M,PcF r.p:=λr hr=>by
      rw[hM]at hr;rcases List.mem_append.1 hr with hr|hr
      ·exact hLF2 r hr
      ·exact hpF2 _ (List.mem_of_mem_take (zV.1 hr).1)
     have hMn:M.length<=1000000000:=by
      rw[hM,lap,jG,List.length_take];rw[lap,jG]at hLn2;omega
     rw[<-hM]at hS ⊢;simp only[kg,List.append_assoc,lca,lna];simp (disch:=omega) only[sA',pcC,tkC,go_sem];refine hK1 _ _ (h++ [.mem 1 26 [.str x.sec,strs x.sig,qm x.tok,qp x.col],.emp 1,.emp 2,.mem 1 29 [.osl (h.length+15) (vc+i) 7 0 M.length],.mem 1 121 [.fn (.func 80) [] [.op (h.length+3) 1 0]],O5,.emp 0,P7,P8,A0,(.mem (qn (some A)+1) 120 (pcC p)),O11,O12,.mem 1 3 (qP (TL x l d d.length)),.mem 2 64 MC,qZ (vc+i) 36 (jB (bsW M))]) ?_ ?_ ?_
     ·simp[pcC,tkC]
     ·simp
     ·simp only[List.append_assoc,lca,lna];simp (disch:=omega) only[pcC,tkC,cP7,go_sem]
      repeat' first|with_reducible apply aiA|exact clz|fail
      refine qO (quy (a:=h.length+3) (b:=h.length+15) (c:=h.length) (va:=1) (vb:=vc+i) (Z:= .mem 1 26 [.str x.sec,strs x.sig,qm x.tok,qp x.col]) ⟨by simp,by simp,by simp,om,om,om⟩ M p (k:Int) (-1) (by simp only[go_sem]) (by simp only[go_sem]) (by simp only[go_sem]) (by rw[<-hX0];exact lX0) (hpF2 p hpm) hMn hMF) ?_;simp (disch:=omega) only[go_sem];refine hN1 _ _ (h++ [.mem 1 26 [.str x.sec,strs x.sig,qm x.tok,qp x.col],.emp 1,.emp 2,.mem 1 29 [.osl (h.length+15) (vc+(i+1)) 7 0 (M++ [(⟨p,(k:Int),-1⟩:Rw)]).length],.mem 1 121 [.fn (.func 80) [] [.op (h.length+3) 1 0]],O5,.emp 0,P7,P8,A0,(.mem (qn (some A)+1) 120 (pcC p)),O11,O12,.mem 1 3 (qP (TL x l d d.length)),.mem 2 64 MC,qZ (vc+(i+1)) 36 (jB (bsW (M++ [(⟨p,(k:Int),-1⟩:Rw)])))]) ?_ ?_ ⟨_,rfl,?_,by rw[hS]⟩
      ·simp[pcC,tkC,Nat.add_assoc]
      ·simp
      ·intro n c hc;simp[pcC,tkC]at hc;rcases hc with rfl|rfl|rfl|rfl|rfl|rfl|rfl<;>rfl
    ·rintro hh ⟨B,sB,lB,rfl⟩;rw[List.length_map,List.take_length];simp (disch:=omega) only[go_sem];have e2:nxT x l (k+1)=t':=by
      unfold nxT;rw[ipo om,b2];unfold jb;rw[ine om,Nat.add_sub_cancel]
     refine hK _ _ ⟨k+1,vc+qs.length,P7,P8,A0,B,O11,O12⟩ ⟨by simp only;omega,λO hO=> ?_⟩ (by simp only;omega) ?_
     ·simp only[List.mem_cons,List.not_mem_nil,or_false]at hO;rcases hO with rfl|rfl|rfl|rfl|rfl|rfl
      ·exact hP7l
      ·exact hP8l
      ·rw[hA0];exact⟨sA,lA⟩
      ·exact⟨sB,lB⟩
      ·exact⟨s11,l11⟩
      ·exact⟨s12,l12⟩
     ·simp only[eR1,e2];refine Wk.temps ?_
      (simp only[go_sem,qg,qc,qb,qf];try exact we)
    ·intro e hh hf;exact hf.elim
   ·have q7:(D<0)=False:=eqf g6;obtain⟨j,hj⟩: ∃j:Nat,D=j:=⟨D.toNat,om⟩
    have hjd:j<d.length:=by
     have:=(TK x l d k d.length).2
     omega
    rw[hj]at eLs hD q7;have q8:(0<=(j:Int))=True:=wj;have q9:((j:Int)<d.length)=True:=wj;have s11': ∀m,qJ (O11::m) 0=true:=λ_=>s11
    have e0:=hpl j hjd;have eU:FU x l (d.getD j default)=k:=qjC (n:=d.length) hD.symm;obtain⟨o,ho'⟩:=wg (d.getD j default)
    have eo:=ho'.symm;rw[eo]at e0 eU;have hot:o.txt.length<=1000:=ht o (by rw[ho'];exact zJ hjd);obtain⟨p1,p2,p3,p4,p5,p6⟩:=Sm e0;have c5:=λh=>qDq h
    have zp: ∀g l,valL g .len [qcA l]= .int .i64 l.length:=λ_ _=>rfl
    have zq: ∀g l,okL g .len [qcA l]=True:=λ_ _=>eqt trivial
    have k7:(0<=o.kind)=True:=wj;have k8:(o.kind<4)=True:=wj;obtain⟨_,_,a3,a4,_⟩:=kX hus hkl;obtain⟨fid,qs,eIx,c6,eqs,hpF2⟩: ∃(fid:Nat) (qs:List Pc),[AV.nilfn,AV.fn (.func 136) [] [],AV.fn (.func 138) [] [],AV.fn (.func 140) [] []][Int.toNat o.kind]?.getD AV.undef= .fn (.func fid) [] []∧(∀l',ACalls Tryz.prog fid [.agg [.str x.sec,strs x.sig,qm x.tok,qp x.col],.agg [.int .i64 (f:Int),.int .i64 (t':Int),RV],.agg [.int .i64 o.kind,.str o.sig,.int .i64 o.tok,.str o.txt]] (h++l') (qcA qs) (h++l'))∧qs=qg8 x l k o∧ ∀p∈qs,PcF p:=by
     obtain⟨a1,a2,_⟩:=kX hus hkl;rcases (show o.kind=1∨o.kind=2∨o.kind=3 by omega)with g7|g7|g7
     ·obtain⟨S1,hS1⟩: ∃S1:Nat,zR x o.sig=S1:=⟨(zR x o.sig).toNat,by have:=(qbv p4).1;omega⟩
      have hS1l:S1<x.sig.length:=by have:=(qbv p4).2.1;omega
      refine⟨136,spk x S1 f (t'-f),by rw[g7];rfl,λl'=> ?_,?_,Sj ho hS1l om⟩
      ·have c6:=qDn x (l.getD k default) o S1 f t' (h++l') hz ho hS1 hS1l (by rw[a1,b1]) (by rw[a2,b2]) om om;unfold coC unC dcC at c6;rw[a1,a2,<-b1,<-b2,<-b3]at c6;exact c6
      ·unfold qg8;rw[ipo g7,hS1,itn,b1,b2]
     ·obtain⟨r1,r2,r3,r4⟩:=qeM p6 g7;refine⟨138,cjP (qaZ o.txt) (f:Int),by rw[g7];rfl,λl'=> ?_,?_,qqa r2⟩
      ·have c6:=qDo x (l.getD k default) o (h++l') hot r4 r1 r2 hg.app;unfold coC unC dcC at c6;rw[a1,a2,<-b1,<-b2,<-b3]at c6;exact c6
      ·unfold qg8 cjP;rw[ine (by rw[g7];decide),ipo g7,a1,b1]
     ·refine⟨140,[],by rw[g7];rfl,λl'=> ?_,?_,λp hp=>by cases hp⟩
      ·have c6:=qDp x (l.getD k default) o (h++l');unfold coC unC dcC at c6;rw[a1,a2,<-b1,<-b2,<-b3]at c6;exact c6
      ·unfold qg8;rw[ine (by rw[g7];decide),ine (by rw[g7];decide)]
    simp (disch:=omega) only[q2,q4,q5,q6,q7,q8,q9,hlc,hll,eLs,zu,zv,kz,dcC,eo,s11',go_sem]
    repeat' first|with_reducible apply aiA|exact clz|fail
    refine jV ?Ta ?Ha ?h1 ?h2
    case h1=>
     simp (disch:=omega) only[go_sem]
     repeat' first|(refine cU (λ_=>c5 _) flk ?_;simp (disch:=omega) only[k7,go_sem])|with_reducible apply aiA
     all_goals first
      |omega
      |rfl
      |skip
     rw[eIx];refine qih (c6 _) (by exact flk) ?_;simp (disch:=omega) only[zp,zq,go_sem]
     repeat' first|with_reducible apply aiA
     all_goals first
      |omega
      |rfl
      |skip
    case h2=>
    rw[<-hP7,<-hP8];obtain⟨P11,hP11⟩:=wg (AObj.mem (qn (some O11)+1) 43 [.int .i64 o.kind,.str o.sig,.int .i64 o.tok,.str o.txt])
    rw[<-hP11];have eR1:rwK x l d S (k+1)=L1++rwM qs (k:Int) (j:Int):=by
     unfold rwK;rw[ipo om];show rwL x l d S k++(rwC x S (jb l k) (frN l k)++rwU x l d S k)=_;unfold rwU;rw[<-hD,ine om,itn,eo,hL1,hL0,hps,eqs,b1,List.append_assoc];rfl
    have hLF2: ∀r∈L1,PcF r.p:=λr hr=>by
     rw[hL1]at hr;rcases List.mem_append.1 hr with hr|hr
     ·exact hLF r hr
     ·exact hpF _ (zV.1 hr).1
    have hLn2:(L1++rwM qs (k:Int) (j:Int)).length<=1000000000:=by
     rw[<-eR1];unfold rwK;rw[ipo om];exact Nat.le_trans (qkL (show k+1<=l.length by omega)) hN
    simp (disch:=omega) only[go_sem];have hqn:qs.length<=1000000000:=by rw[lap,jG]at hLn2;omega
    refine qu (T:=λi:Nat×AObj=>zf 154 [(1,zA l),(2,kz d),(3,.int .i64 (S:Int)),(4,.op h.length 1 0),(13,.osl (h.length+13) 1 1 0 l.length),(16,.op (h.length+3) 1 0),(17,.op (h.length+4) 1 0),(18,.int .i64 (t':Int)),(19,.op (h.length+7) (qn (some O7)+1) 0),(78,.osl (h.length+14) 2 3 0 (l.length+1)),(79,.int .i64 ((l.length+1:Nat):Int)),(80,.int .i64 (k:Int)),(111,qcA qs),(112,.int .i64 qs.length),(113,.int .i64 i.1)])
     (H:=λi=>h++ [.mem 1 26 [.str x.sec,strs x.sig,qm x.tok,qp x.col],.emp 1,.emp 2,.mem 1 29 [.osl (h.length+15) (vb+ps.length+i.1) 7 0 (L1++rwM (qs.take i.1) (k:Int) (j:Int)).length],.mem 1 121 [.fn (.func 80) [] [.op (h.length+3) 1 0]],O5,.emp 0,P7,P8,A,O10,P11,i.2,.mem 1 3 (qP (TL x l d d.length)),.mem 2 64 MC,qZ (vb+ps.length+i.1) 36 (jB (bsW (L1++rwM (qs.take i.1) (k:Int) (j:Int))))])
     (inv:=λi=>i.1<=qs.length∧qJ [i.2] 0=true∧ ∀n,lowO n i.2) (m:=λi=>qs.length-i.1) (0,O12) ⟨nzl _,s12,l12⟩ ?_ ?_
    ·simp only[List.take_zero,rwM,List.map_nil,lan,Nat.add_zero];refine Wk.temps ?_
     (simp only[kz,dcC,go_sem,qg,qc,qb,qf];try exact we)
    rintro⟨i,B⟩ ⟨j1,j2,j3⟩ K3 hK3;simp only at j1 j2 j3 hK3;have j2': ∀m,qJ (B::m) 0=true:=λ_=>j2
    by_cases hi:i<qs.length
    ·have w1:((i:Int)<qs.length)=True:=wj;have w2:(0<=(i:Int))=True:=wj;have hS:L1++rwM (qs.take (i+1)) (k:Int) (j:Int)=(L1++rwM (qs.take i) (k:Int) (j:Int))++ [⟨qs.getD i default,(k:Int),(j:Int)⟩]:=by
      unfold rwM;rw[List.take_add_one,zn hi,List.map_append,gdqA,zn hi,List.append_assoc];rfl
     have hpm:qs.getD i default∈qs:=zJ hi;obtain⟨p,hp'⟩:=wg (qs.getD i default)
     have ep:=hp'.symm;rw[<-hp']at hS hpm;obtain⟨M,hM⟩:=wg (L1++rwM (qs.take i) (k:Int) (j:Int))
     have hMF: ∀r∈M,PcF r.p:=λr hr=>by
      rw[hM]at hr;rcases List.mem_append.1 hr with hr|hr
      ·exact hLF2 r hr
      ·exact hpF2 _ (List.mem_of_mem_take (zV.1 hr).1)
     have hMn:M.length<=1000000000:=by
      rw[hM,lap,jG,List.length_take];rw[lap,jG]at hLn2;omega
     rw[<-hM]at hS ⊢;simp (disch:=omega) only[qcA,pcC,tkC,w1,w2,ep,j2',cP7,q2,q5,q6,eLs,hlc,hll,go_sem]
     repeat' first|with_reducible apply aiA|exact clz|fail
     refine qO (quy (a:=h.length+3) (b:=h.length+15) (c:=h.length) (va:=1) (vb:=vb+ps.length+i) (Z:= .mem 1 26 [.str x.sec,strs x.sig,qm x.tok,qp x.col]) ⟨by simp,by simp,by simp,om,om,om⟩ M p (k:Int) (j:Int) (by simp only[go_sem]) (by simp only[go_sem]) (by simp only[go_sem]) (by rw[<-hX0];exact lX0) (hpF2 p hpm) hMn hMF) ?_;simp (disch:=omega) only[go_sem];refine hK3 _ _ (i+1,.mem (qn (some B)+1) 120 (pcC p)) ⟨hi,rfl,λn c hc=> ?_⟩ (by simp only;omega) ?_
     ·simp[pcC,tkC]at hc;rcases hc with rfl|rfl|rfl|rfl|rfl|rfl|rfl<;>rfl
     ·simp only[hS,pcC,tkC,lap,lco,lnl,lca,lna,Nat.zero_add];refine Wk.temps ?_
      (simp only[kz,dcC,go_sem,qg,qc,qb,qf];try exact we)
    ·have w1:((i:Int)<qs.length)=False:=wm;obtain rfl:i=qs.length:=by omega
     rw[List.take_length];simp (disch:=omega) only[w1,go_sem];have e2:nxT x l (k+1)=t':=by
      unfold nxT;rw[ipo om,b2];unfold jb;rw[ine om,Nat.add_sub_cancel]
     refine hK _ _ ⟨k+1,vb+ps.length+qs.length,P7,P8,A,O10,P11,B⟩ ⟨by simp only;omega,λO hO=> ?_⟩ (by simp only;omega) ?_
     ·simp only[List.mem_cons,List.not_mem_nil,or_false]at hO;rcases hO with rfl|rfl|rfl|rfl|rfl|rfl
      ·exact hP7l
      ·exact hP8l
      ·exact⟨sA,lA⟩
      ·exact⟨s10,l10⟩
      ·rw[hP11];refine⟨rfl,λn c hc=> ?_⟩;simp at hc;rcases hc with rfl|rfl|rfl|rfl<;>rfl
      ·exact⟨j2,j3⟩
     ·simp only[eR1,e2];refine Wk.temps ?_
      (simp only[go_sem,qg,qc,qb,qf];try exact we)
  ·intro e hh hf;exact hf.elim
theorem qiT{L:List Rw}{p:Rw->Bool}(h: ∀r∈L,p r=false):L.filter p= []:=List.filter_eq_nil_iff.2 λr hr=>by rw[h r hr];simp
def dcK(x:Co)(l:List Un)(d:List Dc)(r:Rw):Int:=if r.u<0 then-1 else Uo x l d r.u.toNat d.length
theorem qy7{x:Co}{l:List Un}{d:List Dc}{s k:Nat}{r:Rw}(hr:r∈rwU x l d s k):r.u=k∧r.d=Uo x l d k d.length:=by
 have h1:=TK x l d k d.length;unfold rwU at hr;split at hr
 ·obtain⟨_,g2,g3⟩:=zV.1 hr;exact⟨g2,om⟩
 ·obtain⟨_,g2,g3⟩:=zV.1 hr;exact⟨g2,g3⟩
theorem qs4{x:Co}{l:List Un}{d:List Dc}{s:Nat}{r:Rw}(hr:r∈rwA x l d s):(r.u= -1∧r.d= -1)∨ ∃k,k<l.length∧r∈rwU x l d s k:=by
 have hL: ∀k,k<=l.length->r∈rwL x l d s k->(r.u= -1∧r.d= -1)∨ ∃k,k<l.length∧r∈rwU x l d s k:=by
  intro k
  induction k with
  |zero=>intro _ hr;cases hr
  |succ k ih=>
   intro hk hr;rcases List.mem_append.1 (show r∈rwL x l d s k++_ from hr)with hr|hr
   ·exact ih om hr
   ·rcases List.mem_append.1 hr with hr|hr
    ·exact .inl (zV.1 (show r∈rwM _ _ _ from hr)).2
    ·exact .inr ⟨k,om,hr⟩
 rcases List.mem_append.1 (show r∈rwL x l d s l.length++_ from hr)with hr|hr
 ·exact hL _ (nlr _) hr
 ·exact .inl (zV.1 (show r∈rwM _ _ _ from hr)).2
theorem qqe{x:Co}{l:List Un}{d:List Dc}{s:Nat}{r:Rw}(hr:r∈rwA x l d s):r.d=dcK x l d r:=by
 unfold dcK;rcases qs4 hr with⟨h1,h2⟩|⟨k,_,hk⟩
 ·rw[ipo om,h2]
 ·obtain⟨h1,h2⟩:=qy7 hk;rw[ine om,h1,itn,h2]
theorem qAW{x:Co}{l:List Un}{d:List Dc}{s:Nat}(h:qaQ x l d s){i:Nat}(hi:i<(rwA x l d s).length):qg7 x l (bsW (rwA x l d s)) i=0:=by
 obtain⟨g1,g2⟩:=qqf h;have hm:=zJ (a:=default) hi;have g:=g1 _ hm;have hd:=qqe hm;have hr:=qav l ((rwA x l d s).getD i default).p.c;have hu:=g.u;unfold qg7;rw[Tv hi];obtain⟨r,hrr⟩:=wg ((rwA x l d s).getD i default)
 rw[<-hrr]at g hd hr hu;have bef: ∀hi0:i≠0,qdz (bsW (rwA x l d s)) i=mkW (ql7 (rwA x l d s) (i-1)) ((rwA x l d s).getD (i-1) default)∧((rwA x l d s).getD (i-1) default).p.c<=r.p.c∧(0<=r.u->r.u=((rwA x l d s).getD (i-1) default).u->r.d=((rwA x l d s).getD (i-1) default).d):=λhi0=>by
  refine⟨?_,?_,λh1 h2=> ?_⟩
  ·unfold qdz;rw[ine hi0,Tv om]
  ·have:=List.pairwise_iff_getElem.1 g2 (i-1) i om hi om
   rw[hrr,gdqA,zn (show i-1<_ by omega),gdqA,zn hi];exact this
  ·have h3:=qqe (zJ (a:=default) (show i-1<(rwA x l d s).length by omega));rw[hd,h3];unfold dcK;rw[h2]
 rw[<-hrr];unfold wdE;show (if r.p.t.text= []∨64<r.p.t.text.length then (11:Int) else if r.p.c<0∨(x.col.length:Int)<=r.p.c∨(decide (i=0)=false∧r.p.c<(qdz (bsW (rwA x l d s)) i).col) then 19 else
  if r.u< -1∨(l.length:Int)<=r.u then 20 else if fnU l r.p.c≠r.u then 20 else
  if r.d< -1∨(r.u<0∧r.d≠ -1)∨(decide (i=0)=false∧0<=r.u∧r.u=(qdz (bsW (rwA x l d s)) i).unit∧r.d≠(qdz (bsW (rwA x l d s)) i).dec) then 2 else 0)=0
 rw[ine (λhc=>hc.elim g.tx.1 (λhc=>by have:=g.tx.2;omega))];rw[ine]
 ·rw[ine om,ine (λhc=>hc hu),ine];rintro (hc|⟨hc1,hc2⟩|⟨h0,h1,h2,h3⟩)
  ·have:=g.d.1;omega
  ·exact hc2 (g.n hc1).2
  ·have h0:i≠0:=of_decide_eq_false h0;obtain⟨b1,b2,b3⟩:=bef h0;rw[b1]at h2 h3;exact h3 (b3 h1 h2)
 ·rintro (hc|hc|⟨h0,h1⟩)
  ·have:=g.c.1;omega
  ·have:=g.c.2;omega
  ·have h0:i≠0:=of_decide_eq_false h0;obtain⟨b1,b2,b3⟩:=bef h0;rw[b1]at h1;have h1:r.p.c<((rwA x l d s).getD (i-1) default).p.c:=h1;omega
theorem qqX(L:List Rw)(c:Int): ∀n,n<=L.length->cW (bsW L) c n=((L.take n).filter λr=>decide (r.p.c=c)).length:=by
 intro n
 induction n with
 |zero=>intro _;rfl
 |succ n ih=>
  intro hn;unfold cW;rw[ih om,List.take_add_one,zn hn,Option.toList_some,List.filter_append,lap,Tv hn];congr 1;have e:L.getD n default=L[n]:=by rw[gdqA,zn hn];rfl
  rw[e];show (if L[n].p.c=c then 1 else 0)=_
  by_cases g:L[n].p.c=c
  ·rw[ipo g,List.filter_cons_of_pos (p:=λr:Rw=>decide (r.p.c=c)) (dqt g)];rfl
  ·rw[ine g,List.filter_cons_of_neg (p:=λr:Rw=>decide (r.p.c=c)) (by rw[dqf g];simp)];rfl
theorem qoB{x:Co}{l:List Un}{d:List Dc}{s:Nat}(h:qaQ x l d s){c:Nat}(hc:c<x.col.length)(hf:fnU l (c:Int)<0): ∀n,n<=x.col.length->(rwS x l d s n).filter (λr=>decide (r.p.c=(c:Int)))=if c<n then [⟨pcT x s c,-1,-1⟩] else []:=by
 intro n
 induction n with
 |zero=>intro _;rfl
 |succ n ih=>
  intro hn;show (rwS x l d s n++rwc x l d s n).filter _=_;rw[List.filter_append,ih om]
  by_cases e:n=c
  ·subst e;rw[ine (Nat.lt_irrefl _),ipo (Nat.lt_succ_self _)];unfold rwc;rw[ipo hf,List.filter_cons_of_pos (p:=λr:Rw=>decide (r.p.c=(n:Int))) (dqt rfl)];rfl
  ·have e2:(rwc x l d s n).filter (λr=>decide (r.p.c=(c:Int)))= []:=by
    refine qiT λr hr=>dqf λhc2=> ?_
    unfold rwc at hr;split at hr
    ·rw[List.mem_singleton]at hr;subst hr;have hc2:((n:Nat):Int)=c:=hc2;omega
    ·rename_i g;split at hr
     ·have hg:=qav l (n:Int);have q:=qqh h (show (fnU l (n:Int)).toNat<l.length by omega) hr;have q2:=qy6 h (show (fnU l (n:Int)).toNat<l.length by omega) q;have q3:=q2.u;rw[hc2]at q3
      have:=q.u
      omega
     ·cases hr
   rw[e2,lan]
   by_cases g:c<n
   ·rw[ipo g,ipo om]
   ·rw[ine g,ine om]
theorem qAT{x:Co}{l:List Un}{d:List Dc}{s:Nat}(h:qaQ x l d s){c:Nat}(hc:c<x.col.length)(hf:fnU l (c:Int)<0):ccB x (bsW (rwA x l d s)) c=true:=by
 have hS:=qs5 d h.us h.cv h.co h.sl;have hF:=qoB h hc hf x.col.length (nlr _);rw[hS,ipo hc]at hF;have h1:cW (bsW (rwA x l d s)) c (bsW (rwA x l d s)).length=1:=by
  rw[km,qqX _ _ _ (nlr _),List.take_length,hF];rfl
 unfold ccB;rw[h1,dqt rfl,Bool.true_and];have hm:(⟨pcT x s c,-1,-1⟩:Rw)∈rwA x l d s:=by
  have:(⟨pcT x s c,-1,-1⟩:Rw)∈(rwA x l d s).filter (λr=>decide (r.p.c=(c:Int))):=by rw[hF];exact List.mem_singleton.2 rfl
  exact (List.mem_filter.1 this).1
 obtain⟨i,hi,he⟩:=List.getElem_of_mem hm;refine qR.2 ⟨i,by rw[km];exact hi,?_⟩;rw[Tv hi];have e:(rwA x l d s).getD i default=⟨pcT x s c,-1,-1⟩:=by rw[gdqA,zn hi];exact he
 rw[e];show (decide (((c:Nat):Int)=(c:Int))&&decide ((pcT x s c).t.text=txA x c))=true;rw[dqt rfl,Bool.true_and,decide_eq_true_iff];obtain⟨a1,a2,a3⟩:=qiF h.cv h.co h.sl hc hf;obtain⟨b1,_,b3⟩:=qiF h.cv h.co (show 0<x.sig.length from h.co.sg.1) hc hf;unfold pcB at a1 b1;have a1:=of_decide_eq_true a1;have b1:=of_decide_eq_true b1;unfold clT at a2;rw[ine om,ine om]at a2;exact Option.some.inj a2
theorem qAV{x:Co}{l:List Un}{d:List Dc}{s:Nat}(h:qaQ x l d s):pvE x l (bsW (rwA x l d s))=0:=by
 have h1:vaE x l=0:=by
  unfold vaE;rw[ine (λhc=>hc h.ca),ine];unfold rgB;rw[h.us,h.cv];simp
 unfold pvE;have h2:SE (qg7 x l (bsW (rwA x l d s))) 0 (bsW (rwA x l d s)).length=0:=z8 λi hi=>qAW h (by rw[km]at hi;exact hi)
 rw[h1,h2,ine (by simp),ine (by simp)];refine z8 λc hc=> ?_
 unfold qz6;split
 ·rfl
 ·rename_i g;rw[ipo (qAT h hc om)]
def unF(x:Co)(r:Nat×Nat):Un:=⟨(r.1:Int),(r.2:Int),qb2 x r.1 r.2⟩
def rnL(x:Co):List (Nat×Nat):=qbs (cmB x) x.col.length
def T8(x:Co):List Un:=(rnL x).map (unF x)
theorem qox(p:Nat->Bool)(n:Nat): ∀d f,(kE p n d f).Pairwise λa b=>a.2<b.1:=by
 intro d
 induction d with
 |zero=>intro f;exact List.Pairwise.nil
 |succ d ih=>
  intro f;unfold kE;split
  ·exact List.Pairwise.nil
  ·rw[List.pairwise_append];refine⟨?_,ih _,λa ha b hb=> ?_⟩
   ·split
    ·exact List.pairwise_singleton _ _
    ·exact List.Pairwise.nil
   ·split at ha
    ·rw[List.mem_singleton]at ha;subst ha
     have:=((qb5 p n d (nxt p (n-f) f+1)).1 b hb).1
     show nxt p (n-f) f<b.1;omega
    ·cases ha
theorem qcn(x:Co):(T8 x).length=(rnL x).length:=by unfold T8;rw[List.length_map]
theorem qcm{x:Co}{k:Nat}(hk:k<(rnL x).length):(T8 x).getD k default=unF x (rnL x)[k]:=by
 unfold T8;rw[gdqA,List.getElem?_map,zn hk];rfl
theorem qkC{x:Co}{k:Nat}(hk:k<(rnL x).length):(rnL x)[k].1<(rnL x)[k].2∧(rnL x)[k].2<=x.col.length∧ ∀c,(rnL x)[k].1<=c->c<(rnL x)[k].2->cmB x c=false:=qkI (List.getElem_mem hk)
theorem qco(x:Co):UG x (T8 x)=true:=by
 unfold UG;rw[Bool.not_eq_true',qt];intro k hk;rw[qcn]at hk;rw[Bool.not_eq_false'];obtain⟨h1,h2,_⟩:=qkC hk;refine qlw.2 ?_;rw[qcm hk];have hb:beH (T8 x) k<((rnL x)[k].1:Int):=by
  unfold beH;split
  ·omega
  ·rename_i h0;rw[qcm (show k-1<(rnL x).length by omega)]
   have:=List.pairwise_iff_getElem.1 (qox (cmB x) x.col.length (x.col.length+1) 0) (k-1) k (by show _<(rnL x).length;omega) hk om
   show ((rnL x)[k-1].2:Int)<_;have this:(rnL x)[k-1].2<(rnL x)[k].1:=this;omega
 refine⟨hb,?_,?_,?_,?_⟩
 ·show (0:Int)<=((rnL x)[k].1:Nat);omega
 ·show ((rnL x)[k].1:Int)<((rnL x)[k].2:Nat);omega
 ·show ((rnL x)[k].2:Int)<=_;omega
 ·show qb2 x (rnL x)[k].1 (rnL x)[k].2=qb2 x (((rnL x)[k].1:Nat):Int).toNat (((rnL x)[k].2:Nat):Int).toNat;rw[itn,itn]
theorem qnt{d:List Dc}{j:Nat}(ht: ∀o∈d,o.txt.length<=1000):(d.getD j default).txt.length<=1000:=by
 by_cases hj:j<d.length
 ·exact ht _ (zJ hj)
 ·rw[gdqA,List.getElem?_eq_none om];exact nzl _
theorem qs7{x:Co}{l:List Un}{d:List Dc}{s k:Nat}(ht: ∀o∈d,o.txt.length<=1000):(rwU x l d s k).length<=(toN l k-frN l k)+1000:=by
 unfold rwU;split
 ·rw[jG]
  have:=qcc x s (frN l k) (toN l k-frN l k)
  omega
 ·rw[jG];unfold qg8;split
  ·have:=qcc x (zR x (d.getD (Uo x l d k d.length).toNat default).sig).toNat (frN l k) (toN l k-frN l k)
   omega
  ·split
   ·rw[List.length_map];have h1:=qck (d.getD (Uo x l d k d.length).toNat default).txt;have h2:=qnt (j:=(Uo x l d k d.length).toNat) ht;omega
   ·exact nzl _
theorem qkM(x:Co)(s f t:Nat):(rwC x s f t).length<=t-f:=by
 unfold rwC;rw[jG];exact qcc x s f _
theorem qeb{x:Co}{l:List Un}{d:List Dc}{s:Nat}(h:UG x l=true)(ht: ∀o∈d,o.txt.length<=1000): ∀k,k<=l.length->(rwL x l d s k).length<=jb l k+1000*k∧k<=jb l k:=by
 intro k
 induction k with
 |zero=>intro _;exact⟨nzl _,nzl _⟩
 |succ k ih=>
  intro hk;obtain⟨i1,i2⟩:=ih om;have hp:=qdb h (show k<l.length by omega);obtain⟨_,_,a3,a4,_⟩:=kX h (show k<l.length by omega);have u:=qs7 (x:=x) (l:=l) (s:=s) (k:=k) ht;have c:=qkM x s (jb l k) (frN l k);rw[qbY];refine⟨?_,om⟩;show (rwL x l d s k++(rwC x s (jb l k) (frN l k)++rwU x l d s k)).length<=_;rw[lap,lap];omega
theorem qs2{x:Co}{l:List Un}{d:List Dc}{s:Nat}(h:UG x l=true)(ht: ∀o∈d,o.txt.length<=1000):(rwA x l d s).length<=1001*x.col.length:=by
 obtain⟨h1,h2⟩:=qeb (d:=d) (s:=s) h ht l.length (nlr _);have hp:=qaF h (nlr l.length);have c:=qkM x s (jb l l.length) x.col.length;unfold rwA;rw[lap];omega
theorem qs3{x:Co}{l:List Un}{d:List Dc}{s:Nat}(hc:x.col.length<=10000)(ht: ∀o∈d,o.txt.length<=1000)(h:vaE x l=0):(rwA x l d s).length<=1000000000:=by
 have:=qs2 (d:=d) (s:=s) (qdu h).2.1 ht
 omega
end RC
end
section
open Go Go.Proofs AF
def qr2:List Nat:= []
@[go_sem]def vM:DT:= DT.one ⟨some 23,none,.app 4 3 64 40,[.t 14,.t 22]⟩ (DT.one ⟨none,none,.store 1,[.t 4,.t 23]⟩ DT.nil)
def qAp:C:=
 (vU [O1 1 (.box 0 26) 0,ON 2 (.nilo 1 3 64) [],vO 3 0] ((vU [O1 7 (.load (some 4)) 1,O1 8 (.call 67 true) 7,vP 9 .neq 8 0] (vV 9 (vX [ON 2 (.nilo 1 3 64) [],vO 3 1]))).seq (vU
 [⟨some 4,none,.alloc 2 28 [.nl],[]⟩] (((C.wk.seq (vY [O1 10 (.load (some 4)) 1,O1 11 (.call 89 true) 10])).seq (C.block 0 (C.range (.t 11) [12,13] (vU [MV 5 12] (vY [MV 6 13]))
 (C.block 1 (C.draw (DT.one ⟨some 15,none,.mv,[.t 5]⟩ (DT.one ⟨some 16,none,.mv,[.t 6]⟩ (DT.one ⟨some 17,none,.load (some 4),[.t 1]⟩ (DT.one ⟨some 18,none,.mv,[.t 5]⟩ (DT.one
 ⟨some 19,none,.mv,[.t 6]⟩ (DT.uni ⟨some 20,none,.call 90 true,[.t 17,.t 18,.t 19]⟩ (DT.one ⟨some 21,none,.build [i6 0,i6 0,.nl] [(0,1),(1,1),(2,1)],[.t 15,.t 16,.t 20]⟩
 ((DT.one ⟨some 14,none,.load none,[.t 4]⟩ (DT.one ⟨some 22,none,.bslc 3 3 1 64 [i6 0,i6 0,.nl] [(0,3)],[.t 21]⟩ vM)).two (DT.one ⟨some 22,none,.bslc 3 3 1 64 [i6 0,i6 0,.nl]
 [(0,3)],[.t 21]⟩ (DT.one ⟨some 14,none,.load none,[.t 4]⟩ vM))))))))))))))).seq (vX [LD 24 4,MV 2 24,vO 3 0])))))
theorem qxS:qM Tryz.prog 31 25 5 [RV.tmp 2,RV.tmp 3] qAp:=fi Tryz.f31 [1,2,4,22,23] qr2 [4]
end
