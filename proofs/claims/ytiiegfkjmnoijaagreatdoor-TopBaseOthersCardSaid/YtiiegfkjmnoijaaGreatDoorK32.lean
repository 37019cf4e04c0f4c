import Derived.Test.YtiiegfkjmnoijaaGreatDoorK3
import Derived.Test.YtiiegfkjmnoijaaGreatDoorK5
import Derived.Test.YtiiegfkjmnoijaaGreatDoorK8
import Derived.Test.YtiiegfkjmnoijaaGreatDoorProg
import Derived.Test.YtiiegfkjmnoijaaGreatDoorK18
import Derived.Test.YtiiegfkjmnoijaaGreatDoorK12
set_option linter.all false
set_option maxHeartbeats 128000000
set_option maxRecDepth 100000
section
open Go Go.Proofs AF
def XD:List Nat:= []
def qeg:C:=
 (v6 [ON 2 (.nilo 0 4 43) []] ((v6 [MV 3 0,O1 4 (.isnil .slice false) 3] (v7 4 (wa [ON 2 (.nilo 0 4 43) []]))).seq (wa [⟨some 5,none,.bslc 1 4 0 43 [i6 0,.str [],i6 0,.str []]
 [],[]⟩,MV 6 0,O2 7 (.app 2 4 43 48) 5 6,MV 2 7])))
theorem qcw:qN Tryz.prog 24 8 3 [RV.tmp 2] qeg:=fi Tryz.f24 [2,5,7] XD []
end
section
open Go Go.Proofs AF HY LN
namespace RC
def wR(L:List Dc):w7:=L.flatMap dcC
theorem QJ(u:Dc):(dcC u).length=4:=rfl
theorem ky(L:List Dc):(wR L).length=L.length*4:=by
 unfold wR
 induction L with
 |nil=>rfl
 |cons a L ih=>rw[List.flatMap_cons,lap,ih,lco,QJ];omega
theorem bD(A B:List Dc):wR (A++B)=wR A++wR B:=by simp[wR]
theorem oI(a:Dc):wR [a]=dcC a:=by simp[wR]
theorem iK(L:List Dc): ∀i,(wR L).drop (i*4)=wR (L.drop i):=by
 induction L with
 |nil=>intro i;simp[wR]
 |cons a L ih=>
  intro i;cases i with
  |zero=>simp
  |succ i=>
   rw[show wR (a::L)=dcC a++wR L from rfl,show (a::L).drop (i+1)=L.drop i from rfl,<-ih i];rw[show (i+1)*4=(dcC a).length+i*4 by rw[QJ];omega,List.drop_append,List.drop_eq_nil_of_le om,lna,Nat.add_sub_cancel_left]
theorem oH{L:List Dc}{i:Nat}(hi:i<L.length):((wR L).drop (i*4)).take 4=dcC (L.getD i default):=by
 rw[iK,List.drop_eq_getElem_cons hi,gdqA,zG hi];rfl
theorem W9(L:List Dc):((List.range L.length).flatMap λi=>dcC (L.getD i default))=wR L:=by
 unfold wR;have e:L=(List.range L.length).map λi=>L.getD i default:=by
  apply List.ext_getElem (by simp);intro i h1 h2;simp[gdqA,h1]
 conv=>rhs;rw[e]
 rw[List.flatMap_map]
theorem Gi(h:w6)(L:List Dc):qk h (jG L)=some (L.length,wR L):=by
 show some (L.length,_)=_;rw[W9]
theorem WJ(L:List Dc)(n:Nat): ∀c∈wR L,ze n c=true:=by
 intro c hc;unfold wR at hc;obtain⟨x,_,hx⟩:=List.mem_flatMap.1 hc;simp only[dcC,List.mem_cons,List.not_mem_nil,or_false]at hx;rcases hx with rfl|rfl|rfl|rfl<;>rfl
theorem ZB{L:List Dc}(h:L≠ []):valP (.isnil .slice false) [jG L]= .bool false:=by
 unfold jG;rw[kM,ine (by simpa using h)];rfl
theorem qb9(L:List Dc)(h:w6)(k:Nat)(hk:qK h k=true)(h0:L≠ [])(hl:L.length<=1000000000):
  ACalls Tryz.prog 24 [jG L] h (.osl k (qn (qv k h)+1) 4 0 L.length) (qu k h (.mem (qn (qv k h)+1) 43 (wR L))):=by
 have s1:=λh=>Gi h L
 have eP:=ky L;have hp:=List.length_pos_iff.2 h0;have z0:=ZB h0;have z1:okP (.isnil .slice false) [jG L]=True:=eqt trivial;refine bX qcw k (by simp) ?_;simp only[lco,lnl,Nat.reduceAdd,Nat.reduceSub,List.replicate,lca,lna];simp (disch:=omega) only[qeg,s1,z0,z1,go_sem]
 repeat' first|(with_reducible apply aiA)
 all_goals first
  |omega
  |contradiction
  |skip
 all_goals try rfl
 exact⟨h.length+1,2,4,0,L.length,43,wR L,_,⟨trivial,trivial⟩,rfl,rfl,om,by simp only[go_sem],WJ L _,hk,rfl,rfl⟩
theorem qfm{x:Co}{l:List Un}{d:List Dc}{s:Int}{hh:w6}{j v:Nat}{cs:w7}{r:AV}(hj:qv j hh=some (.mem v 43 cs))(hcs: ∀i,i<d.length->(cs.drop (i*4)).take 4=dcC (d.getD i default))(hl:d.length*4<=cs.length)
  (hE:ACalls Tryz.prog 25 [.agg (coC x),zf l,jG d,.int .i64 s] (qu j hh (.emp (v+1))) r (qu j hh (.emp (v+1)))):ACalls Tryz.prog 25 [.agg (coC x),zf l,.osl j v 4 0 d.length,.int .i64 s] hh r (qu j hh (.emp (v+1))):=by
 have hs:qK hh j=true:=by unfold qK;rw[hj]
 have e1:xu [j] hh=qu j hh (.emp (v+1)):=by show qu j hh (.emp (qn (qv j hh)+1))=_;rw[hj];rfl
 refine ACalls.frzd [j] (by show (qK hh j&&true)=true;rw[hs];rfl) ?_;rw[e1];refine hE.le ⟨?_,?_,?_,qi,trivial⟩ (qi)
 ·unfold coC;simp only[go_sem,List.map_cons,List.map_nil];exact qi
 ·exact qi
 ·have e: [j].contains j=true:=by simp
  simp only[go_sem,e,if_true];rw[hj,slOf_mem,ipo ⟨rfl,by rw[Nat.zero_add];exact hl⟩];refine VLe.sl_eq rfl (λi hi=> ?_);rw[Nat.zero_add,hcs i hi];rfl
end RC
end
section
open Go Go.Proofs AF
def XE:List Nat:= []
def qei:C:=
 (v6 [MC 4 (.bool false)] ((v6 [MV 6 0,O1 7 .len 6,MV 8 1,O1 9 .len 8,BI 10 .neq 7 9] (v7 10 (wa [MC 4 (.bool false)]))).seq ((v6 [MV 11 0,O1 12 .len 11,vU 13 0] (C.block 0 (v6
 [BI 14 .lss 13 12] ((v8 14 0).seq ((C.block 1 (v6 [MV 15 13,MV 5 15] (v6 [MV 16 0,MV 17 5,O2 18 (.idxA 7) 16 17,O1 19 (.load (some 7)) 18,MV 20 1,MV 21 5,O2 22 (.idxA 7) 20
 21,O1 23 (.load (some 7)) 22,⟨some 24,none,.aeq [.str,.int,.int,.int,.bool,.bool,.str] true,[.t 19,.t 23]⟩] (v7 24 (wa [MC 4 (.bool false)]))))).seq (wc [vV 25 .add 13 1,MV 13
 25])))).loop)).seq (wa [MC 4 (.bool true)]))))
theorem qcy:qN Tryz.prog 27 26 0 [RV.tmp 4] qei:=fi Tryz.f27 [] XE []
end
section
open Go Go.Proofs AF
def XF:List Nat:= [25,20,24]
@[go_sem]def vR:DT:= DT.one ⟨none,none,.store 1,[.t 16,.t 65]⟩ (DT.one ⟨some 17,none,.mv,[.t 66]⟩ DT.nil)
@[go_sem]def vN:DT:= DT.one ⟨some 64,none,.call 20 false,[.t 58,.t 59,.t 63]⟩ (DT.one ⟨some 57,none,.mv,[.t 64]⟩ (DT.one ⟨some 65,none,.ext 0,[.t 57]⟩ (DT.one ⟨some 66,none,.ext 1,[.t 57]⟩ vR)))
@[go_sem]def vO:DT:= (DT.one ⟨some 64,none,.call 20 false,[.t 58,.t 59,.t 63]⟩ (DT.one ⟨some 57,none,.mv,[.t 64]⟩ (DT.one ⟨some 65,none,.ext 0,[.t 57]⟩ (DT.one ⟨some 66,none,.ext 1,[.t 57]⟩ (DT.one
 ⟨some 16,none,.alloc 3 3 [i6 0],[]⟩ vR))))).two (DT.one ⟨some 16,none,.alloc 3 3 [i6 0],[]⟩ vN)
@[go_sem]def vP:DT:= DT.one ⟨some 63,none,.load (some 4),[.t 62]⟩ vN
@[go_sem]def vQ:DT:= (DT.one ⟨some 63,none,.load (some 4),[.t 62]⟩ vO).two (DT.one ⟨some 16,none,.alloc 3 3 [i6 0],[]⟩ vP)
@[go_sem]def vS:DT:= DT.one ⟨some 62,none,.idxA 4,[.t 60,.t 61]⟩ vP
def c4w:C:=
 (v6 [O1 5 (.box 0 26) 0,O1 9 (.box 1 43) 4,MC 10 (.bool false)] (v6 [MV 24 2,O1 25 (.conv .i64) 24,vT 26 1 5,LD 27 26,O1 28 .len 27,ON 29 (.mm true) [.c (i6 1),.t 28],BI 30 .rem
 25 29,MV 11 30] (v6 [O1 32 (.load (some 4)) 5,MV 33 1,MV 34 11,ON 35 (.call 15 true) [.t 32,.t 33,.t 34],MV 31 35,O1 36 (.ext 0) 31,O1 37 (.ext 1) 31,O1 38 (.ext 2) 31,MV 12
 36,MV 13 37,MV 14 38] ((v6 [MV 39 14,O1 40 (.un UnOp.not) 39,MV 41 40,vY 42 41 1,vW 43 41 .len 42,vZ 44 41 (.bin .eql) 43 (i6 0),PT 45 41 44,MV 46 45,vW 47 46 (.load (some 4))
 9,⟨some 48,some (46,false),.bslc 2 4 1 43 [i6 0,.str [],i6 0,.str []] [(0,4)],[.t 47]⟩,vW 49 46 (.call 23 true) 48,PT 50 46 49] (v7 50 (wa [ON 51 (.call 16 true) [],MV 10
 51]))).seq (v6 [MV 52 3,O1 53 (.conv .i64) 52,MV 54 1,O1 55 .len 54,BI 56 .rem 53 55,MV 15 56] ((C.draw (DT.one ⟨some 59,none,.mv,[.t 12]⟩ (DT.one ⟨some 60,none,.mv,[.t 1]⟩
 (DT.one ⟨some 61,none,.mv,[.t 15]⟩ ((DT.one ⟨some 58,none,.load (some 4),[.t 5]⟩ ((DT.one ⟨some 62,none,.idxA 4,[.t 60,.t 61]⟩ vQ).two (DT.one ⟨some 16,none,.alloc 3 3 [i6
 0],[]⟩ vS))).two ((DT.one ⟨some 62,none,.idxA 4,[.t 60,.t 61]⟩ ((DT.one ⟨some 58,none,.load (some 4),[.t 5]⟩ vQ).two ((DT.one ⟨some 63,none,.load (some 4),[.t 62]⟩ ((DT.one
 ⟨some 58,none,.load (some 4),[.t 5]⟩ vO).two (DT.one ⟨some 16,none,.alloc 3 3 [i6 0],[]⟩ (DT.one ⟨some 58,none,.load (some 4),[.t 5]⟩ vN)))).two (DT.one ⟨some 16,none,.alloc 3
 3 [i6 0],[]⟩ (DT.one ⟨some 58,none,.load (some 4),[.t 5]⟩ vP))))).two (DT.one ⟨some 16,none,.alloc 3 3 [i6 0],[]⟩ (DT.one ⟨some 58,none,.load (some 4),[.t 5]⟩ vS)))))))).seq
 (v6 [O1 68 (.load (some 4)) 5,MV 69 12,O1 70 (.load (some 4)) 9,ON 71 (.call 20 false) [.t 68,.t 69,.t 70],MV 67 71,O1 72 (.ext 0) 67,O1 73 (.ext 1) 67,MV 18 72,MV 19 73] ((v6
 [MV 74 17,vV 75 .neq 74 0] (v7 75 (wa [MC 10 (.bool false)]))).seq ((v6 [MV 76 19,vV 77 .neq 76 0,MV 78 77,wi 79 78 16,vY 80 78 18,vX 81 78 (.bin .neq) 79 80,PT 82 78 81] (v7
 82 (wa [ON 83 (.call 16 true) [],MV 10 83]))).seq (v6 [MV 84 1,O1 85 (.call 24 false) 84,MV 20 85] (v6 [MV 86 20,MV 87 15,O1 88 (.load (some 4)) 9,O2 89 (.idxA 4) 86 87,ST 4 89
 88] (v6 [O1 91 (.load (some 4)) 5,MV 92 12,MV 93 20,MV 94 11,ON 95 (.call 25 false) [.t 91,.t 92,.t 93,.t 94],MV 90 95,O1 96 (.ext 0) 90,O1 97 (.ext 1) 90,MV 21 96,MV 22 97]
 ((v6 [MV 98 22,vV 99 .neq 98 0] (v7 99 (wa [MC 10 (.bool false)]))).seq (v6 [O1 100 (.mkfn (Fn.func 26) 0) 16,MV 23 100] (wa [MV 101 23,MV 102 13,O2 103 .callv 101 102,MV 104
 23,MV 105 21,O2 106 .callv 104 105,O2 107 (.call 27 true) 103 106,MV 108 107,PN 109 108 true (.call 16 true) [],PF 110 108 109,MV 10 110])))))))))))))))
theorem Hg:qN Tryz.prog 4 111 5 [RV.tmp 10] c4w:=fi Tryz.f4 [5,9,48,16,85] XF []
end
section
open Go Go.Proofs AF
def fK:List Nat:= []
def qeh:C:=
 (v6 [ON 3 (.nilo 0 7 36) []] (v6 [ON 4 (.nilo 1 7 36) []] ((v6 [MV 7 0,O1 8 .len 7,vU 9 0] (C.block 0 (v6 [BI 10 .lss 9 8] ((v8 10 0).seq ((C.block 1 (v6 [O2 11 (.idxA 7) 7 9,O1
 12 (.load (some 7)) 11,⟨some 6,none,.alloc 2 36 [.str [],i6 0,i6 0,i6 0,.bool false,.bool false,.str []],[]⟩,ST 7 6 12] (v6 [vT 13 2 6,LD 14 13,LD 15 1,BI 16 .neq 14 15] (v7 16
 (v6 [vT 17 4 6,⟨none,none,.store 1,[.t 17,.c (.bool false)]⟩] (wc [MV 18 4,O1 19 (.load (some 7)) 6,⟨some 20,none,.bslc 3 7 1 36 [.str [],i6 0,i6 0,i6 0,.bool false,.bool
 false,.str []] [(0,7)],[.t 19]⟩,O2 21 (.app 4 7 36 64) 18 20,MV 4 21])))))).seq (wc [vV 22 .add 9 1,MV 9 22])))).loop)).seq (wa [MV 23 4,MV 3 23]))))
theorem qcx:qN Tryz.prog 26 24 5 [RV.tmp 3] qeh:=fi Tryz.f26 [3,4,6,20,21] fK []
def qem:C:=
 (v6 [O1 3 (.box 0 26) 0,ON 6 (.nilo 1 4 43) []] (v6 [ON 7 (.nilo 2 4 43) []] ((v6 [MV 14 1,O1 15 .len 14,vU 16 0] (C.block 0 (v6 [BI 17 .lss 16 15] ((v8 17 0).seq ((C.block 1
 (v6 [O2 18 (.idxA 3) 14 16,O1 19 (.load (some 3)) 18,⟨some 9,none,.alloc 3 64 [i6 0,i6 0,.nl],[]⟩,ST 3 9 19] (v6 [⟨some 20,none,.build [i6 0,.str [],i6 0,.str []] [(0,1)],[.c
 (i6 3)]⟩,⟨some 10,none,.alloc 4 43 [i6 0,.str [],i6 0,.str []],[]⟩,ST 4 10 20] ((v6 [vT 21 0 9,LD 22 21,MV 11 22] (C.block 2 ((v6 [MV 23 11,vT 24 1 9,LD 25 24,BI 26 .lss 23 25]
 (v8 26 2)).seq ((C.block 3 (v6 [vT 29 3 3,LD 30 29,MV 31 11,O2 32 (.idxA 1) 30 31,LD 33 32,O1 34 .len 33,vU 35 0] (C.block 4 (v6 [BI 36 .lss 35 34] ((v8 36 4).seq ((C.block 5
 (v6 [MV 37 35,O2 38 (.idxA 1) 33 35,LD 39 38,MV 12 37,MV 13 39] (C.block 6 (v6 [MV 41 13,vV 42 .lss 41 0,MV 40 42] (C.cond (.t 40) C.skip (v6 [MV 44 12,MV 45 2,BI 46 .eql 44
 45,MV 43 46] (C.cond (.t 43) (wc [vT 47 1 3,LD 48 47,MV 49 12,O2 50 (.idxA 1) 48 49,LD 51 50,MV 52 13,⟨some 53,none,.build [i6 0,.str [],i6 0,.str []] [(0,1),(1,1),(2,1)],[.c
 (i6 1),.t 51,.t 52]⟩,ST 4 10 53]) (v6 [vT 55 1 10,LD 56 55,BC 57 .eql 56 (.str []),MV 54 57] (v7 54 (wc [vT 58 1 3,LD 59 58,MV 60 12,O2 61 (.idxA 1) 59 60,LD 62 61,MV 63 13,vT
 64 1 10,ST 1 64 62,vT 65 2 10,ST 1 65 63])))))))))).seq (wc [vV 66 .add 35 1,MV 35 66])))).loop))).seq (we 27 11))).loop)).seq (wc [MV 67 7,O1 68 (.load (some 4)) 10,⟨some
 69,none,.bslc 5 4 1 43 [i6 0,.str [],i6 0,.str []] [(0,4)],[.t 68]⟩,O2 70 (.app 6 4 43 48) 67 69,MV 7 70]))))).seq (wc [vV 71 .add 16 1,MV 16 71])))).loop)).seq (wa [MV 72 7,MV
 6 72]))))
theorem qcC:qN Tryz.prog 35 73 7 [RV.tmp 6] qem:=fi Tryz.f35 [3,6,7,9,10,69,70] fK []
def qel:C:=
 (v6 [O1 2 (.box 0 64) 0,MC 3 (.bool false)] (wa [vT 4 0 2,LD 5 4,vV 6 .lss 5 0,MV 7 6,wh 8 7 1 2,wi 9 7 8,wh 10 7 3 1,wi 11 7 10,vW 12 7 .len 11,vX 13 7 (.bin .gtr) 9 12,PT 14 7
 13,MV 3 14]))
theorem qcB:qN Tryz.prog 34 15 1 [RV.tmp 3] qel:=fi Tryz.f34 [2] fK []
end
section
open Go Go.Proofs AF HY LN
namespace RC
theorem qfl(L:List Wd)(h:w6)(hn:L.length<=1000000000):ACalls Tryz.prog 27 [zV L,zV L] h (.bool true) h:=by
 have zl1: ∀g,valL g .len [zV L]= .int .i64 L.length:=λ_=>rfl
 have zl2: ∀g,okL g .len [zV L]=True:=λ_=>eqt trivial
 have z0:zV L= .sl L.length λi=>wdC (L.getD i default):=rfl
 have qq:((L.length:Int)=L.length)=True:=eqt rfl;refine acO qcy ?_;simp (disch:=omega) only[qei,zl1,zl2,go_sem];refine qp (T:=λi:Nat=>zw 26 [(0,zV L),(1,zV L),(12,.int .i64 L.length),(13,.int .i64 i)]) (H:=λ_=>h) (inv:=λi=>i<=L.length) (m:=λi=>L.length-i) 0 (nzl _) (Wk.temps ?_) ?_
 ·(simp only[go_sem,qg,qc,qa,qf];try exact wr)
 rintro i i1 K hK
 by_cases hi:i<L.length
 ·have k1:((i:Int)<L.length)=True:=xv;have k0:(0<=(i:Int))=True:=xv;obtain⟨w,hw⟩:=wD (L.getD i default)
  have ew:=hw.symm;simp (disch:=omega) only[z0,wdC,k0,k1,ew,go_sem];refine hK _ _ (i+1) hi om (Wk.temps ?_)
  (simp only[z0,wdC,go_sem,qg,qc,qa,qf];try exact wr)
 have k1:((i:Int)<L.length)=False:=xD;simp (disch:=omega) only[k1,go_sem]
 repeat' first|exact wm|fail
theorem pu(u:Int)(b:List Wd)(i:Nat):reG u b (i+1)=reG u b i++if (b.getD i default).unit=u then [] else [XU (b.getD i default)]:=rfl
theorem B0(u:Int)(b:List Wd): ∀n,(reG u b n).length<=n:=by
 intro n
 induction n with
 |zero=>exact nlr _
 |succ n ih=>
  rw[pu,lap];split
  ·simp only[lnl];omega
  ·simp only[lco,lnl];omega
theorem qeM(b:List Wd)(u:Int)(k v:Nat)(h:w6)(hk:qv k h=some (.mem v 3 [.int .i64 u]))(hn:b.length<=1000000):ACalls Tryz.prog 26 [zV b,.op k v 0] h (zV (reG u b b.length)) h:=by
 have hkl:=zA hk;have hc: ∀l,cellsOf (h++l) k v=some [.int .i64 u]:=λl=>by
  have hk2:qv k (h++l)=some (.mem v 3 [.int .i64 u]):=by
   unfold qv at hk ⊢;rw[List.getElem?_append_left hkl];exact hk
  exact qL hk2
 have z0:zV b= .sl b.length λi=>wdC (b.getD i default):=rfl
 have zl1: ∀g,valL g .len [zV b]= .int .i64 b.length:=λ_=>rfl
 have zl2: ∀g,okL g .len [zV b]=True:=λ_=>eqt trivial
 refine acO qcx ?_;simp (disch:=omega) only[qeh,zl1,zl2,go_sem];refine qp (T:=λs:Nat×Nat×AObj×AObj=>zw 24 [(1,.op k v 0),(4,.osl (h.length+1) s.2.1 7 0 (reG u b s.1).length),(7,zV b),(8,.int .i64 b.length),(9,.int .i64 s.1)])
  (H:=λs=>h++ [.emp 1,zE s.2.1 36 (jC (reG u b s.1)),s.2.2.1,s.2.2.2,.emp 0])
  (inv:=λs=>s.1<=b.length∧qK [s.2.2.1] 0=true∧qK [s.2.2.2] 0=true) (m:=λs=>b.length-s.1) (0,1,.emp 0,.emp 0) ⟨nzl _,rfl,rfl⟩ (Wk.temps ?_) ?_
 ·(simp only[reG,go_sem,qg,qc,qa,qf];try exact wr)
 rintro⟨i,vb,O1,O2⟩ ⟨i1,i2,i3⟩ K hK;simp only at i1 i2 i3 hK;have i2': ∀m,qK (O1::m) 0=true:=λ_=>i2
 have i3': ∀m,qK (O2::m) 0=true:=λ_=>i3
 have hle:=B0 u b i
 by_cases hi:i<b.length
 case neg=>
  have k1:((i:Int)<b.length)=False:=xD;obtain rfl:i=b.length:=by omega
  simp (disch:=omega) only[k1,go_sem]
  repeat' first|(apply qb;exact rvk;simp only[go_sem])
  exact bR rfl
 have k1:((i:Int)<b.length)=True:=xv;have hS:=pu u b i;obtain⟨w,hw⟩:=wD (b.getD i default)
 have ew:=hw.symm;rw[ew]at hS;obtain⟨L,hL⟩:=wD (reG u b i)
 rw[<-hL]at hS hle ⊢;have eC:=ig L;have eTk:List.take (L.length*7) (jC L)=jC L:=ltl om
 by_cases g:w.unit=u
 ·have q1:(w.unit=u)=True:=eqt g;rw[ipo g,lan]at hS;simp (disch:=omega) only[z0,wdC,k1,ew,i2',i3',hc,q1,go_sem]
  repeat' first|with_reducible apply aiA|exact clz|fail
  refine hK _ _ (i+1,vb,.mem (qn (some O1)+1) 36 (wdC w),O2) ⟨hi,rfl,i3⟩ (by simp only;omega) ?_;simp only[hS,wdC];refine Wk.temps ?_
  (simp only[go_sem,qg,qc,qa,qf];try exact wr)
 have q1:(w.unit=u)=False:=eqf g;rw[ine g]at hS;have keep:jC L++wdC (XU w)=jC (reG u b (i+1)):=by rw[hS,pX,pZ]
 simp (disch:=omega) only[z0,wdC,k1,ew,i2',i3',hc,q1,eC,eTk,go_sem]
 repeat' first|with_reducible apply aiA|exact clz|fail
 have eA:=keep;simp only[wdC,XU]at eA
 try rw[eA]
 refine hK _ _ (i+1,vb+1,.mem (qn (some O1)+1) 36 (wdC (XU w)),.mem (qn (some O2)+1) 36 (wdC (XU w))) ⟨hi,rfl,rfl⟩ (by simp only;omega) ?_;simp only[hS,wdC,XU,lap,lco,lnl];refine Wk.temps ?_
 (simp only[go_sem,qg,qc,qa,qf];try exact wr)
theorem Zp{d:List Dc}{B j:Nat}(ht: ∀o∈d,o.txt.length<=B):(d.getD j default).txt.length<=B:=by
 by_cases hj:j<d.length
 ·exact ht _ (zh hj)
 ·rw[gdqA,List.getElem?_eq_none om];exact nzl _
theorem YR{x:Co}{l:List Un}{d:List Dc}{s k B:Nat}(ht: ∀o∈d,o.txt.length<=B):(rwU x l d s k).length<=(toN l k-frN l k)+B:=by
 unfold rwU;split
 ·rw[jF]
  have:=yt x s (frN l k) (toN l k-frN l k)
  omega
 ·rw[jF];unfold mn;split
  ·have:=yt x (zM x (d.getD (wz x l d k d.length).toNat default).sig).toNat (frN l k) (toN l k-frN l k)
   omega
  ·split
   ·rw[List.length_map];have h1:=bT (d.getD (wz x l d k d.length).toNat default).txt;have h2:=Zp (j:=(wz x l d k d.length).toNat) ht;omega
   ·exact nzl _
theorem YP{x:Co}{l:List Un}{d:List Dc}{s B:Nat}(h:wJ x l=true)(ht: ∀o∈d,o.txt.length<=B): ∀k,k<=l.length->(rwL x l d s k).length<=zx l k+B*k∧k<=zx l k:=by
 intro k
 induction k with
 |zero=>intro _;exact⟨nzl _,nzl _⟩
 |succ k ih=>
  intro hk;obtain⟨i1,i2⟩:=ih om;have hp:=aW h (show k<l.length by omega);obtain⟨_,_,a3,a4,_⟩:=jO h (show k<l.length by omega);have u:=YR (x:=x) (l:=l) (s:=s) (k:=k) ht;have c:=gf x s (zx l k) (frN l k);rw[xR];refine⟨?_,om⟩;show (rwL x l d s k++(rwC x s (zx l k) (frN l k)++rwU x l d s k)).length<=_;rw[lap,lap,Nat.mul_succ];omega
theorem YM{x:Co}{l:List Un}{d:List Dc}{s:Nat}(h:wJ x l=true)(hc:x.col.length<=24)(ht: ∀o∈d,o.txt.length<=30):(rwA x l d s).length<=1024:=by
 obtain⟨h1,h2⟩:=YP (d:=d) (s:=s) h ht l.length (nlr _);have hp:=xa h (nlr l.length);have c:=gf x s (zx l l.length) x.col.length;unfold rwA;rw[lap];omega
theorem LQ{x:Co}{l:List Un}{d:List Dc}{o:Dc}{s k:Nat}(h:wt x l d s)(ho:yb x l o=0)(hc:x.col.length<=24)(ht: ∀y∈d,y.txt.length<=30)(hto:o.txt.length<=30):wt x l (d.set k o) s:=by
 refine⟨h.ca,h.us,h.cv,h.sl,by rw[List.length_set];exact h.dl,λj hj=> ?_,YM h.us hc λy hy=> ?_⟩
 ·rw[List.length_set]at hj
  by_cases e:j=k
  ·subst e;rw[wX hj];exact ho
  ·rw[fF e];exact h.pl j hj
 ·rcases List.mem_or_eq_of_mem_set hy with hy|rfl
  ·exact ht y hy
  ·exact hto
theorem PK{x:Co}{l:List Un}{d:List Dc}{o:Dc}{s k:Nat}(h:wt x l d s)(h':wt x l (d.set k o) s)(hk:k<d.length)(ho:yb x l o=0)(he:jN x l (d.getD k default)=jN x l o):
  reG (jN x l o) (bsW (rwA x l d s)) (bsW (rwA x l d s)).length=reG (jN x l o) (bsW (rwA x l (d.set k o) s)) (bsW (rwA x l (d.set k o) s)).length:=by
 have h1:=(w9 ho).2.2.2.2.1;have h2:=(yk l (wp x (zM x o.sig).toNat o.tok)).2;obtain⟨u,hu⟩: ∃u:Nat,jN x l o=u:=⟨(jN x l o).toNat,om⟩
 have hul:u<l.length:=by
  have:fnU l (wp x (zM x o.sig).toNat o.tok)=u:=hu
  omega
 rw[hu];exact PD h h' hul λj hj hne=>F4 hk (by rw[he,hu]) hu hne
theorem WL{L:List Dc}{i:Nat}(e:Dc)(hi:i<L.length):(wR L).take (i*4)++dcC e++(wR L).drop (i*4+4)=wR (L.set i e):=by
 have hL:=ky L;have hS:=ky (L.set i e);rw[List.length_set]at hS;have e1:L.set i e=L.take i++ [e]++L.drop (i+1):=by rw[List.set_eq_take_append_cons_drop,ipo hi];simp
 have e2:(wR L).take (i*4)=wR (L.take i):=by
  have h1:wR L=wR (L.take i)++wR (L.drop i):=by rw[<-bD,List.take_append_drop]
  rw[h1,List.take_append_of_le_length (by rw[ky,List.length_take];omega),ltl (by rw[ky,List.length_take];omega)]
 rw[e1,bD,bD,oI,e2,show i*4+4=(i+1)*4 by omega,iK]
theorem qc6(x:Co)(d:List Dc)(q p:Nat)(o:Dc)(h:w6)(hq:q<=255)(hpq:p<=255)(hp:kt SG h)(hg:z7 h frmN frmC)(h1:CoB x)(h2:d.length<=9223372036854775807):
  ACalls Tryz.prog 4 [.agg (coC x),jG d,.int .u8 (q:Int),.int .u8 (p:Int),.agg (dcC o)] h (.bool true) h:=by
 obtain⟨s,hs⟩:=wD (frT x q)
 have c1:=λl'=>mdT x d (s:Int) (h++l') (hp.app l') hg.app h1 h2
 have c2:=λl'=>qec (h++l') (hp.app l') hg.app
 have hM:1<=mxS x:=Nat.le_max_left _ _;have hn1:(q:Int)%(mxS x:Int)=(s:Int):=by rw[hs];unfold frT;omega
 have hM2:(mxS x:Int)<=9223372036854775807:=by have:=h1.sg;unfold mxS;omega
 have zm:=zmS x;have zn:okP (.mm true) [.int .i64 1,.int .i64 (x.sig.length:Int)]=True:=eqt (by simp[okP,xt]);obtain⟨M,hMM⟩:=wD (mxS x)
 rw[<-hMM]at hM hn1 hM2 zm;have zg1: ∀g,valL g .len [strs x.sig]= .int .i64 x.sig.length:=λ_=>rfl
 have zg2: ∀g,okL g .len [strs x.sig]=True:=λ_=>eqt trivial
 have k0:((M:Int)=0)=False:=xD;obtain⟨B,hB⟩:=wD (tB x d s)
 obtain⟨l,hl⟩:=wD (tL x d)
 obtain⟨b,hb⟩:=wD (tR x d s)
 simp only[<-hB,<-hl,<-hb]at c1;unfold coC at c1;have zd1: ∀g,valL g .len [jG d]= .int .i64 d.length:=λ_=>rfl
 have zd2: ∀g,okL g .len [jG d]=True:=λ_=>eqt trivial
 cases B with
 |false=>
  refine acO Hg ?_;simp (disch:=omega) only[c4w,coC,dcC,zg1,zg2,zm,zn,hn1,go_sem]
  repeat' first|(refine qj ( .bool false) ?_;simp (disch:=omega) only[go_sem])|((first|refine cA (c1 _) ?_ ?_|refine cA (c2 _) ?_ ?_);exact flk;simp (disch:=omega) only[go_sem])|exact wj|with_reducible apply aiA|exact clz|fail
 |true=>
 obtain⟨o1,⟨o2,o3⟩,zu,d1,d3,s0,E,e1,e2⟩:=Rm hB.symm;have d30: ∀y∈d,y.txt.length<=30:=by
  have h3:=hB.symm;unfold tB stT at h3;rw[Bool.and_eq_true,Bool.and_eq_true,Bool.and_eq_true,Bool.not_eq_true',Bool.not_eq_true']at h3;exact (fE h3.1.2.1).2.2
 rw[<-hl]at e1;rw[<-hb]at e2;rw[itn]at E e2;rw[<-e1]at E e2 zu;have hln:=E.ln;have hlen:b.length=(rwA x l d s).length:=by rw[e2,jD]
 by_cases hd0:d= []
 ·have k1:((d.length:Int)=0)=True:=eqt (by rw[hd0];rfl);refine acO Hg ?_;simp (disch:=omega) only[c4w,coC,dcC,zg1,zg2,zm,zn,hn1,go_sem]
  repeat' first|(refine qj ( .bool false) ?_;simp (disch:=omega) only[zd1,zd2,go_sem])|((first|refine cA (c1 _) ?_ ?_|refine cA (c2 _) ?_ ?_);exact flk;simp (disch:=omega) only[zd1,zd2,k1,go_sem])|exact wj|with_reducible apply aiA|exact clz|fail
 have hdp:=List.length_pos_iff.2 hd0;have k1:((d.length:Int)=0)=False:=xD;have c3: ∀H j v cs,qv j H=some (.mem v 43 (dcC o++cs))->ACalls Tryz.prog 23 [.osl j v 4 0 1] H (.bool (Xu [o])) H:=λH j v cs hj=>by
  refine ACalls.borrow ((Ot [o] [] (by simp)).le ⟨?_,trivial⟩ (qi)) rfl;simp only[rei_osl,if_true,go_sem];rw[hj,slOf_mem,ipo ⟨rfl,by simp[dcC]⟩];refine VLe.sl_eq rfl (λi hi=> ?_);obtain rfl:i=0:=by omega
  rfl
 unfold dcC at c3;cases hgo:Xu [o]with
 |true=>
  simp only[hgo]at c3;refine acO Hg ?_;simp (disch:=omega) only[c4w,coC,dcC,zg1,zg2,zm,zn,hn1,go_sem]
  repeat' first|(refine cA (c1 _) flk ?_;simp (disch:=omega) only[zd1,zd2,k1,go_sem])|with_reducible apply aiA|exact clz|fail
  refine cG (λ_=>c3 _ _ _ (List.drop 4 (zU [.int .i64 0,.str [],.int .i64 0,.str []] 1)) ?jj0) (λ_=>by exact flk) ?_
  case jj0=>simp only[go_sem]
  simp (disch:=omega) only[go_sem]
  repeat' first|(refine cA (c2 _) flk ?_;simp (disch:=omega) only[go_sem])|exact wj|fail
 |false=>
 simp only[hgo]at c3;obtain⟨_,_,g3⟩:=fE hgo;have g4:=g3 o (by simp);obtain⟨k,hk⟩:=wD (p%d.length)
 have hkl:k<d.length:=by rw[hk];exact Nat.mod_lt _ hdp
 have hn2:(p:Int)%(d.length:Int)=(k:Int):=by rw[hk];omega
 have c4:=λl'=>qbB x l (d.getD k default) (h++l') o1 zu (hp.app l') hg.app (d3 _ (zh hkl))
 obtain⟨f1,f2⟩:=Ba E hkl;simp only[f1,f2]at c4;have c5:=λl'=>qbB x l o (h++l') o1 zu (hp.app l') hg.app om
 have hva:=E.va;have hu:Vd x l o=yb x l o:=by unfold Vd;rw[ine (by simp[hva])]
 rw[hu]at c5;obtain⟨y,hy⟩:=wD (d.getD k default)
 obtain⟨u,huu⟩:=wD (jN x l y)
 have ey:=hy.symm;simp only[ey]at c4;simp only[<-huu]at c4;have k2:((k:Int)<d.length)=True:=xv;have k3:(0<=(k:Int))=True:=xv;have zd0:jG d= .sl d.length λi=>dcC (d.getD i default):=rfl
 unfold coC dcC at c4 c5
 by_cases e3:yb x l o=0
 case neg=>
  have m1:(yb x l o=0)=False:=eqf e3;obtain⟨Y,hY⟩:=wD (yb x l o)
  simp only[<-hY]at c5 m1;refine acO Hg ?_;simp (disch:=omega) only[c4w,coC,dcC,zg1,zg2,zm,zn,hn1,go_sem]
  repeat' first|(refine cA (c1 _) flk ?_;simp (disch:=omega) only[zd1,zd2,k1,go_sem])|with_reducible apply aiA|exact clz|fail
  refine cG (λ_=>c3 _ _ _ (List.drop 4 (zU [.int .i64 0,.str [],.int .i64 0,.str []] 1)) ?jj1) (λ_=>by exact flk) ?_
  case jj1=>simp only[go_sem]
  simp (disch:=omega) only[zd1,zd2,hn2,go_sem];refine⟨om,?_⟩;refine jL ?T1 ?H1 ?x1 ?y1
  case x1=>
   simp (disch:=omega) only[zd0,dcC,k2,k3,ey,go_sem]
   repeat' first|(refine cA (c4 _) flk ?_;simp (disch:=omega) only[go_sem])|with_reducible apply aiA
   all_goals first
    |omega
    |rfl
    |skip
  case y1=>
  simp (disch:=omega) only[go_sem]
  repeat' first|((first|refine cA (c5 _) ?_ ?_|refine cA (c2 _) ?_ ?_);exact flk;simp (disch:=omega) only[m1,go_sem])|exact wj|with_reducible apply aiA|exact clz|fail
 have hun:Gw x l o=jN x l o:=by unfold Gw;rw[ipo (hu.trans e3)]
 rw[hun]at c5;simp only[e3]at c5
 by_cases e4:u=jN x l o
 case neg=>
  have m1:(u=jN x l o)=False:=eqf e4;obtain⟨Y,hY⟩:=wD (jN x l o)
  simp only[<-hY]at c5 m1;refine acO Hg ?_;simp (disch:=omega) only[c4w,coC,dcC,zg1,zg2,zm,zn,hn1,go_sem]
  repeat' first|(refine cA (c1 _) flk ?_;simp (disch:=omega) only[zd1,zd2,k1,go_sem])|with_reducible apply aiA|exact clz|fail
  refine cG (λ_=>c3 _ _ _ (List.drop 4 (zU [.int .i64 0,.str [],.int .i64 0,.str []] 1)) ?jj2) (λ_=>by exact flk) ?_
  case jj2=>simp only[go_sem]
  simp (disch:=omega) only[zd1,zd2,hn2,go_sem];refine⟨om,?_⟩;refine jL ?T2 ?H2 ?x2 ?y2
  case x2=>
   simp (disch:=omega) only[zd0,dcC,k2,k3,ey,go_sem]
   repeat' first|(refine cA (c4 _) flk ?_;simp (disch:=omega) only[go_sem])|with_reducible apply aiA
   all_goals first
    |omega
    |rfl
    |skip
  case y2=>
  simp (disch:=omega) only[go_sem]
  repeat' first|((first|refine cA (c5 _) ?_ ?_|refine cA (c2 _) ?_ ?_);exact flk;simp (disch:=omega) only[m1,go_sem])|exact wj|with_reducible apply aiA|exact clz|fail
 rw[<-e4]at c5;have E':=LQ (k:=k) E e3 o2 d30 g4;have hre:=PK E E' hkl e3 (by rw[ey];exact huu.symm.trans e4);rw[<-e2,<-e4]at hre;have ht2: ∀y∈d.set k o,y.txt.length<=1000:=λy hy=>by
  rcases List.mem_or_eq_of_mem_set hy with hy|rfl
  ·exact d3 y hy
  ·omega
 obtain⟨R2,hR2⟩:=wD (bsW (rwA x l (d.set k o) s))
 have hR2l:R2.length<=1024:=by rw[hR2,jD];exact E'.ln
 rw[<-hR2]at hre;have eE:esE x l (d.set k o) s=0:=E'.esE;have eR:esR x l (d.set k o) s=R2:=by unfold esR;rw[ipo eE,itn,hR2]
 have eA0:=λl'=>LR x l (d.set k o) s (h++l') o1 zu (hp.app l') hg.app (by rw[List.length_set];omega) ht2 (λg=>db om ht2 g)
 rw[eE,eR]at eA0;have hln2:(d.set k o).length=d.length:=List.length_set;have eE0: ∀L cs,qv (h.length+4) (h++L)=some (.mem 1 43 cs)->cs=wR (d.set k o)->ACalls Tryz.prog 25 [.agg (coC x),zf l,.osl (h.length+4) 1 4 0 d.length,.int .i64 (s:Int)] (h++L) (.tup [zV R2,.int .i64 0]) (qu (h.length+4) (h++L) (.emp (1+1))):=λL cs hL hcs=>by
  have e:qu (h.length+4) (h++L) (.emp (1+1))=h++qu 4 L (.emp (1+1)):=setO_app;have key:=qfm (x:=x) (l:=l) (d:=d.set k o) (s:=(s:Int)) (r:= .tup [zV R2,.int .i64 0]) hL (λi hi=>by rw[hcs];exact oH hi) (by rw[hcs,ky];exact nlr _) (by rw[e];exact eA0 _);rw[hln2]at key;exact key
 have hdl:=ky d;have q1:(k*4+4<=(wR d).length)=True:=xv;have q2:(u=u)=True:=eqt rfl;unfold coC at eE0;refine acO Hg ?_;simp (disch:=omega) only[c4w,coC,dcC,zg1,zg2,zm,zn,hn1,go_sem]
 repeat' first|(refine cA (c1 _) flk ?_;simp (disch:=omega) only[zd1,zd2,k1,go_sem])|with_reducible apply aiA|exact clz|fail
 refine cG (λ_=>c3 _ _ _ (List.drop 4 (zU [.int .i64 0,.str [],.int .i64 0,.str []] 1)) ?jj3) (λ_=>by exact flk) ?_
 case jj3=>simp only[go_sem]
 simp (disch:=omega) only[zd1,zd2,hn2,go_sem];refine⟨om,?_⟩;refine jL ?T3 ?H3 ?x3 ?y3
 case x3=>
  simp (disch:=omega) only[zd0,dcC,k2,k3,ey,go_sem]
  repeat' first|(refine cA (c4 _) flk ?_;simp (disch:=omega) only[go_sem])|with_reducible apply aiA
  all_goals first
   |omega
   |rfl
   |skip
 case y3=>
 simp (disch:=omega) only[go_sem]
 repeat' first|(refine cA (c5 _) flk ?_;simp (disch:=omega) only[go_sem])|with_reducible apply aiA|exact clz|fail
 refine qE (qb9 d _ (h.length+4) (by simp only[go_sem]) hd0 om) (by exact flk) ?_;have hcs:=WL o hkl;unfold dcC at hcs;have hwl:=B0 u b b.length;have c6:=λL hk=>qeM b u (h.length+3) 1 (h++L) hk om
 have c7:=λL hk=>qeM R2 u (h.length+3) 1 (h++L) hk om
 rw[<-hre]at c7;have c8:=λh=>qfl (reG u b b.length) h om
 simp (disch:=omega) only[k2,k3,hdl,go_sem];refine⟨om,?_⟩;refine qE (eE0 _ _ (by simp only[go_sem]) hcs) (by exact flk) ?_;simp (disch:=omega) only[go_sem];refine⟨om,qy (c6 _ (by simp only[go_sem])) ?_⟩;simp (disch:=omega) only[go_sem]
 try refine⟨om,?_⟩
 refine qy (c7 _ (by simp only[go_sem])) ?_;simp (disch:=omega) only[go_sem]
 repeat' first|((first|refine cA (c8 _) ?_ ?_|refine cG (λe=>c2 _) ?_ ?_);exact flk;simp (disch:=omega) only[go_sem])|exact wj|fail
end RC
end
