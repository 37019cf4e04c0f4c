import Derived.Test.YtiiegfkjmnoijaaGreatDoorK10
import Derived.Test.YtiiegfkjmnoijaaGreatDoorK3
import Derived.Test.YtiiegfkjmnoijaaGreatDoorK5
import Derived.Test.YtiiegfkjmnoijaaGreatDoorK8
import Derived.Test.YtiiegfkjmnoijaaGreatDoorProg
import Derived.Test.YtiiegfkjmnoijaaGreatDoorK9
import Derived.Test.YtiiegfkjmnoijaaGreatDoorK7
set_option linter.all false
set_option maxHeartbeats 64000000
set_option maxRecDepth 100000
section
open Go Go.Proofs AF HY LN
namespace RC
structure im (L:List Rd) (s:Nat):Prop where
 src: ∀r∈L,r.src.Pairwise (· < ·)∧ ∀x∈r.src,0<=x∧x<s
 ne: ∀i j,i<j->j<L.length->(L.getD i default).words≠(L.getD j default).words
theorem aA(L:List Rd)(w:List Str):(∃i,i<L.length∧(L.getD i default).words=w∧pp L w=i)∨((∀i,i<L.length->(L.getD i default).words≠w)∧pp L w<0):=by
 unfold pp;rcases zI (λj=>decide (w=(L.getD j default).words)) L.length with⟨i,h1,h2,_,h4⟩|⟨h1,h2⟩
 ·exact .inl ⟨i,h1,(of_decide_eq_true h2).symm,h4⟩
 ·exact .inr ⟨λi hi e=>of_decide_eq_false (h1 i hi) e.symm,om⟩
theorem kS{L:List Rd}{i j:Nat}{r:Rd}(hi:i<L.length):(L.set i r).getD j default=if j=i then r else L.getD j default:=by
 rw[gdqA,List.getElem?_set]
 by_cases e:i=j
 ·subst e;rw[ipo rfl,ipo hi,ipo rfl];rfl
 ·rw[ine e,ine (λh=>e h.symm),gdqA]
theorem VV{L:List Rd}{w:List Str}{s:Nat}(h:im L s):im (mg L w s) (s+1):=by
 have g: ∀i (hi:i<L.length),L.getD i default=L[i]:=λi hi=>by rw[gdqA,zG hi];rfl
 rcases aA L w with⟨i,h1,h2,h3⟩|⟨h1,h2⟩
 ·have e:mg L w s=L.set i ⟨w,(L.getD i default).src++ [(s:Int)]⟩:=by
   unfold mg;rw[h3,ine om,itn]
  rw[e];have hm:=h.src (L.getD i default) (by rw[g i h1];exact List.getElem_mem h1);refine⟨λr hr=> ?_,λa b hab hb=> ?_⟩
  ·rcases List.mem_or_eq_of_mem_set hr with hr|rfl
   ·obtain⟨a,b⟩:=h.src r hr;exact⟨a,λx hx=>by have:=b x hx;omega⟩
   ·refine⟨List.pairwise_append.2 ⟨hm.1,List.pairwise_singleton _ _,λa ha b hb=> ?_⟩,λx hx=> ?_⟩
    ·rw[List.mem_singleton]at hb
     have:=hm.2 a ha
     omega
    ·rcases List.mem_append.1 hx with hx|hx
     ·have:=hm.2 x hx;omega
     ·rw[List.mem_singleton]at hx;omega
  ·rw[List.length_set]at hb;rw[kS h1,kS h1];have key: ∀j,j<L.length->j≠i->(L.getD j default).words≠w:=λj hj hne e=>by
    rw[<-h2]at e;rcases Nat.lt_or_gt_of_ne hne with hlt|hlt
    ·exact h.ne j i hlt h1 e
    ·exact h.ne i j hlt hj e.symm
   by_cases ea:a=i
   ·rw[ipo ea,ine om];exact λe=>key b hb om e.symm
   ·rw[ine ea]
    by_cases eb:b=i
    ·rw[ipo eb];exact key a om ea
    ·rw[ine eb];exact h.ne a b hab hb
 ·have e:mg L w s=L++ [⟨w,[(s:Int)]⟩]:=by
   unfold mg;rw[ipo h2]
  rw[e];refine⟨λr hr=> ?_,λa b hab hb=> ?_⟩
  ·rcases List.mem_append.1 hr with hr|hr
   ·obtain⟨a,b⟩:=h.src r hr;exact⟨a,λx hx=>by have:=b x hx;omega⟩
   ·rw[List.mem_singleton]at hr;subst hr;exact⟨List.pairwise_singleton _ _,λx hx=>by rw[List.mem_singleton]at hx;omega⟩
  ·rw[lap,List.length_singleton]at hb;have ga: ∀j,j<L.length->(L++ [(⟨w,[(s:Int)]⟩:Rd)]).getD j default=L.getD j default:=λj hj=>by
    rw[gdqA,List.getElem?_append_left hj,gdqA]
   rw[ga a om]
   by_cases eb:b<L.length
   ·rw[ga b eb];exact h.ne a b hab eb
   ·have:b=L.length:=by omega
    subst this;have gb:(L++ [(⟨w,[(s:Int)]⟩:Rd)]).getD L.length default=⟨w,[(s:Int)]⟩:=by
     rw[gdqA,List.getElem?_append_right (nlr _),Nat.sub_self];rfl
    rw[gb];exact h1 a om
theorem fZ(x:Co)(f d:Nat): ∀s,im (aX x f d s) s:=by
 intro s
 induction s with
 |zero=>exact⟨λr hr=>absurd hr List.not_mem_nil,λi j _ h=>absurd h (nnz j)⟩
 |succ s ih=>exact VV ih
theorem bO(x:Co)(f t:Nat):im (dG x f t) x.sig.length:=fZ x f (t-f) x.sig.length
structure Ap where
 x:Co
 l:List Un
 cls:List (List Str)
 b:List Wd
 gs:List Gr
 lay:List Str
 pos:List Bool
def owG(b:List Wd)(k:Int):Nat->List Str
 |0=> []
 |i+1=>owG b k i++if (b.getD i default).unit=k then [(b.getD i default).text] else []
structure rc (L:List Rd) (s:Nat) (W:Nat->List Str):Prop where
 has: ∀i,i<s-> ∃j,j<L.length∧(i:Int)∈(L.getD j default).src
 wd: ∀j,j<L.length-> ∀x∈(L.getD j default).src,(L.getD j default).words=W x.toNat
 nn: ∀j,j<L.length->(L.getD j default).src≠ []
theorem yJ{L:List Rd}{r:Rd}{j:Nat}:(L++ [r]).getD j default=if j<L.length then L.getD j default else if j=L.length then r else default:=by
 rw[gdqA];split
 ·rename_i h;rw[List.getElem?_append_left h,gdqA]
 ·rename_i h;rw[List.getElem?_append_right om];split
  ·rename_i e;subst e;rw[Nat.sub_self];rfl
  ·rw[List.getElem?_eq_none (by rw[List.length_singleton];omega)];rfl
theorem VU{L:List Rd}{s:Nat}{W:Nat->List Str}(h:rc L s W):rc (mg L (W s) s) (s+1) W:=by
 rcases aA L (W s)with⟨k,h1,h2,h3⟩|⟨h1,h2⟩
 ·have e:mg L (W s) s=L.set k ⟨W s,(L.getD k default).src++ [(s:Int)]⟩:=by
   unfold mg;rw[h3,ine om,itn]
  rw[e];refine⟨λi hi=> ?_,λj hj x hx=> ?_,λj hj=> ?_⟩
  ·by_cases ei:i=s
   ·subst ei;exact⟨k,by rw[List.length_set];exact h1,by rw[kS h1,ipo rfl];exact List.mem_append_right _ (List.mem_singleton.2 rfl)⟩
   ·obtain⟨j,hj,hx⟩:=h.has i om;refine⟨j,by rw[List.length_set];exact hj,?_⟩;rw[kS h1];split
    ·rename_i e';subst e';exact List.mem_append_left _ hx
    ·exact hx
  ·rw[List.length_set]at hj;rw[kS h1]at hx ⊢;split at hx
   ·rename_i e';rw[ipo e'];rcases List.mem_append.1 hx with hx|hx
    ·rw[<-h2];exact h.wd k h1 x hx
    ·rw[List.mem_singleton]at hx;subst hx;rfl
   ·rename_i e';rw[ine e'];exact h.wd j hj x hx
  ·rw[List.length_set]at hj;rw[kS h1];split
   ·exact λe=>absurd (List.append_eq_nil_iff.1 e).2 (by simp)
   ·exact h.nn j hj
 ·have e:mg L (W s) s=L++ [⟨W s,[(s:Int)]⟩]:=by
   unfold mg;rw[ipo h2]
  rw[e];refine⟨λi hi=> ?_,λj hj x hx=> ?_,λj hj=> ?_⟩
  ·by_cases ei:i=s
   ·subst ei;exact⟨L.length,by rw[lap,List.length_singleton];omega,by rw[yJ,ine om,ipo rfl];exact List.mem_singleton.2 rfl⟩
   ·obtain⟨j,hj,hx⟩:=h.has i om;exact⟨j,by rw[lap,List.length_singleton];omega,by rw[yJ,ipo hj];exact hx⟩
  ·rw[lap,List.length_singleton]at hj;rw[yJ]at hx ⊢;split at hx
   ·rename_i hl;rw[ipo hl];exact h.wd j hl x hx
   ·rename_i hl;rw[ine hl,ipo om];rw[ipo om]at hx;rw[List.mem_singleton]at hx;subst hx;rfl
  ·rw[lap,List.length_singleton]at hj;rw[yJ];split
   ·rename_i hl;exact h.nn j hl
   ·rw[ipo om];simp
theorem fY(x:Co)(f d:Nat): ∀s,rc (aX x f d s) s λi=>rdG x i f d:=by
 intro s
 induction s with
 |zero=>exact⟨λi h=>absurd h (nnz i),λj h=>absurd h (nnz j),λj h=>absurd h (nnz j)⟩
 |succ s ih=>exact VU ih
theorem fX(x:Co)(f t:Nat):rc (dG x f t) x.sig.length λi=>rdG x i f (t-f):=fY x f (t-f) x.sig.length
def lE(L:List Rd)(s:Int):Int:=yM (λj=>decide (s∈(L.getD j default).src)) L.length 0
theorem JA{L:List Rd}{n:Nat}{W:Nat->List Str}(h:rc L n W)(hi:im L n){s:Nat}(hs:s<n): ∃j,lE L s=(j:Nat)∧j<L.length∧(s:Int)∈(L.getD j default).src∧(L.getD j default).words=W s∧ ∀k,k<L.length->((s:Int)∈(L.getD k default).src↔k=j):=by
 obtain⟨j,hj,hx⟩:=h.has s hs;have uniq: ∀k,k<L.length->((s:Int)∈(L.getD k default).src↔k=j):=λk hk=>by
  refine⟨λhm=> ?_,λe=>by subst e;exact hx⟩;have e1:=h.wd k hk _ hm;have e2:=h.wd j hj _ hx;rcases Nat.lt_trichotomy k j with hl|hl|hl
  ·exact absurd (e1.trans e2.symm) (hi.ne k j hl hj)
  ·exact hl
  ·exact absurd (e2.trans e1.symm) (hi.ne j k hl hk)
 refine⟨j,?_,hj,hx,?_,uniq⟩
 ·unfold lE;exact wv hj (λk hk=>dqf λhm=>by have:=(uniq k om).1 hm;omega) (dqt hx)
 ·have:=h.wd j hj _ hx
  rwa [itn]at this
end RC
end
section
open Go Go.Proofs AF
def cH:List Nat:= []
def qej:C:=
 (v6 [O1 1 (.box 0 26) 0,MC 2 (.bool false)] ((v6 [vU 3 0] (C.block 0 ((v6 [MV 4 3,vT 5 3 1,LD 6 5,O1 7 .len 6,BI 8 .lss 4 7] (v8 8 0)).seq ((C.block 1 (v6 [vT 11 3 1,LD 12 11,MV
 13 3,O2 14 (.idxA 1) 12 13,LD 15 14,O1 16 .len 15,vV 17 .gtr 16 36] (v7 17 (wa [MC 2 (.bool true)])))).seq (we 9 3))).loop)).seq (wa [vT 18 2 1,LD 19 18,O1 20 (.call 85 true)
 19,MV 21 20,wh 22 21 3 1,wi 23 21 22,vW 24 21 .len 23,vZ 25 21 (.bin .gtr) 24 (i6 24),PT 26 21 25,MV 27 26,wh 28 27 1 1,wi 29 27 28,vW 30 27 .len 29,vZ 31 27 (.bin .gtr) 30 (i6
 36),PT 32 27 31,MV 33 32,wh 34 33 0 1,wi 35 33 34,wh 36 33 1 1,wi 37 33 36,vX 38 33 (.call 86 true) 35 37,PT 39 33 38,MV 2 39])))
theorem qcz:qN Tryz.prog 28 40 1 [RV.tmp 2] qej:=fi Tryz.f28 [1] cH []
def qes:C:=
 (v6 [MC 2 (.bool false)] (v6 [vU 3 1] ((v6 [vU 4 0] (C.block 0 ((wg 7 4 0 0).seq ((C.block 1 ((v6 [MV 13 0,MV 14 4,O2 15 (.idxA 1) 13 14,LD 16 15,O1 17 .len 16,vV 18 .gtr 17
 6,MV 19 18,vY 20 19 4,vZ 21 19 (.bin .geq) 20 (i6 4),vY 22 19 21,MG 23 22 true 0,MG 24 22 true 4,P2 25 22 true (.idxA 1) 23 24,P1 26 22 true (.load none) 25,P1 27 22 true .len
 26,PC 28 22 true (.bin .gtr) 27 (i6 1),QF 29 19 false 22 28,PT 30 19 29] (v7 30 (wa [MC 2 (.bool true)]))).seq ((v6 [MV 31 4,vV 32 .lss 31 4] (v7 32 (wc [MV 33 3,MV 34 0,MV 35
 4,O2 36 (.idxA 1) 34 35,LD 37 36,O1 38 .len 37,vV 39 .add 38 1,BI 40 .mul 33 39,MV 3 40]))).seq (v6 [vU 5 0] (C.block 2 ((v6 [MV 41 5,MV 42 0,MV 43 4,O2 44 (.idxA 1) 42 43,LD
 45 44,O1 46 .len 45,BI 47 .lss 41 46] (v8 47 2)).seq ((C.block 3 (v6 [MV 50 0,MV 51 4,O2 52 (.idxA 1) 50 51,LD 53 52,MV 54 5,O2 55 (.idxA 6) 53 54,O1 56 (.load (some 6))
 55,⟨some 6,none,.alloc 0 92 [.str [],.str [],.str [],i6 0,i6 0,.str []],[]⟩,ST 6 6 56] (v6 [vT 57 0 6,LD 58 57,O1 59 .slen 58,vV 60 .gtr 59 12,MV 61 60,wh 62 61 1 6,wi 63 61
 62,vW 64 61 .slen 63,vZ 65 61 (.bin .gtr) 64 (i6 12),PT 66 61 65,MV 67 66,wh 68 67 2 6,wh 69 67 0 68,wi 70 67 69,vW 71 67 .slen 70,vZ 72 67 (.bin .gtr) 71 (i6 20),PT 73 67
 72,MV 74 73,wh 75 74 5 6,wi 76 74 75,vW 77 74 .slen 76,vZ 78 74 (.bin .gtr) 77 (i6 20),PT 79 74 78] (v7 79 (wa [MC 2 (.bool true)]))))).seq (we 48 5))).loop))))).seq (we 11
 4))).loop)).seq (wa [MV 80 3,vV 81 .gtr 80 400,MV 82 81,vY 83 82 0,vW 84 82 .len 83,vZ 85 82 (.bin .gtr) 84 (i6 6),vY 86 82 85,MG 87 86 true 0,P1 88 86 true .len 87,PC 89 86
 true (.bin .leq) 88 (i6 32),QF 90 82 false 86 89,PT 91 82 90,MV 92 91,vY 93 92 0,vW 94 92 .len 93,vZ 95 92 (.bin .gtr) 94 (i6 34),PT 96 92 95,MV 2 96]))))
theorem qcL:qN Tryz.prog 85 97 1 [RV.tmp 2] qes:=fi Tryz.f85 [6] cH []
def qet:C:=
 (v6 [MC 4 (.bool false)] ((v6 [vU 5 0] (C.block 0 ((wg 6 5 1 0).seq ((C.block 1 (v6 [MV 12 1,MV 13 5,O2 14 (.idxA 1) 12 13,LD 15 14,O1 16 .slen 15,vV 17 .gtr 16 20] (v7 17 (wa
 [MC 4 (.bool true)])))).seq (we 10 5))).loop)).seq (wa [MV 18 0,O1 19 .slen 18,vV 20 .gtr 19 20,MV 4 20])))
theorem qcM:qN Tryz.prog 86 21 0 [RV.tmp 4] qet:=fi Tryz.f86 [] cH []
def qbW:C:=
 (v6 [O1 3 (.box 0 36) 0,MC 4 (.bool false)] (wa [vT 5 1 3,LD 6 5,LD 7 1,BI 8 .eql 6 7,MV 9 8,P1 10 9 true (.fldA 0) 3,P1 11 9 true (.load none) 10,P1 12 9 true (.load none) 2,P2
 13 9 true (.bin .eql) 11 12,PF 14 9 13,MV 4 14]))
theorem Oa:qN Tryz.prog 73 15 1 [RV.tmp 4] qbW:=fi Tryz.f73 [3] cH []
def br:C:=
 (v6 [O1 5 (.box 0 26) 0,O1 7 (.box 1 36) 2,O1 8 (.box 2 36) 3,vU 10 0] ((C.block 0 (v6 [vT 14 0 7,LD 15 14,BC 16 .eql 15 (.str []),MV 17 16,wh 18 17 0 7,wi 19 17 18,vW 20 17
 .slen 19,vZ 21 17 (.bin .gtr) 20 (i6 64),PT 22 17 21,MV 13 22] (C.cond (.t 13) (wa [vU 10 11]) (v6 [vT 24 1 7,LD 25 24,vV 26 .lss 25 0,MV 27 26,wh 28 27 1 7,wi 29 27 28,wh 30
 27 3 5,wi 31 27 30,vW 32 27 .len 31,vX 33 27 (.bin .geq) 29 32,PT 34 27 33,MV 35 34,vY 36 35 4,vW 37 35 (.un UnOp.not) 36,vY 38 35 37,P1 39 38 true (.fldA 1) 7,P1 40 38 true
 (.load none) 39,P1 41 38 true (.fldA 1) 8,P1 42 38 true (.load none) 41,P2 43 38 true (.bin .lss) 40 42,QF 44 35 false 38 43,PT 45 35 44,MV 23 45] (C.cond (.t 23) (wa [vU 10
 19]) (v6 [vT 47 2 7,LD 48 47,BC 49 .lss 48 (i6 (-1)),MV 50 49,wh 51 50 2 7,wi 52 50 51,vY 53 50 1,vW 54 50 .len 53,vX 55 50 (.bin .geq) 52 54,PT 56 50 55,MV 46 56] (v7 46 (wa
 [vU 10 20])))))))).seq ((v6 [MV 58 1,vT 59 1 7,LD 60 59,O2 61 (.call 71 true) 58 60,MV 57 61,O1 62 (.ext 0) 57,O1 63 (.ext 1) 57,MV 11 62,MV 12 63] (v6 [MV 64 11,vT 65 2 7,LD
 66 65,BI 67 .neq 64 66] (v7 67 (wa [vU 10 20])))).seq ((v6 [vT 68 3 7,LD 69 68,BC 70 .lss 69 (i6 (-1)),MV 71 70,wh 72 71 2 7,wi 73 71 72,vZ 74 71 (.bin .lss) 73 (i6 0),vY 75 71
 74,P1 76 75 true (.fldA 3) 7,P1 77 75 true (.load none) 76,PC 78 75 true (.bin .neq) 77 (i6 (-1)),QF 79 71 false 75 78,PT 80 71 79,MV 81 80,vY 82 81 4,vW 83 81 (.un UnOp.not)
 82,vY 84 81 83,P1 85 84 true (.fldA 2) 7,P1 86 84 true (.load none) 85,PC 87 84 true (.bin .geq) 86 (i6 0),QF 88 81 false 84 87,vY 89 81 88,P1 90 89 true (.fldA 2) 7,P1 91 89
 true (.load none) 90,P1 92 89 true (.fldA 2) 8,P1 93 89 true (.load none) 92,P2 94 89 true (.bin .eql) 91 93,QF 95 81 false 89 94,vY 96 81 95,P1 97 96 true (.fldA 3) 7,P1 98 96
 true (.load none) 97,P1 99 96 true (.fldA 3) 8,P1 100 96 true (.load none) 99,P2 101 96 true (.bin .neq) 98 100,QF 102 81 false 96 101,PT 103 81 102] (v7 103 (wa [vU 10
 2]))).seq (wa [vU 10 0])))))
theorem kz:qN Tryz.prog 70 104 3 [RV.tmp 10] br:=fi Tryz.f70 [5,7,8] cH []
end
section
open Go Go.Proofs AF HY LN
namespace RC
theorem qcq(u:Un)(c:Int)(h:w6):ACalls Tryz.prog 128 [.agg (unC u),.ip [.int .i64 c]] h (.bool (decide (u.frm<=c)&&decide (c<u.to))) h:=by
 by_cases g:u.frm<=c
 ·have k1:(u.frm<=c)=True:=eqt g;rw[dqt g,Bool.true_and];refine acO Bc ?_;simp (disch:=omega) only[CY,unC,k1,go_sem]
  repeat' first|exact wj|with_reducible apply aiA|exact clz|fail
 ·have k1:(u.frm<=c)=False:=eqf g;rw[dqf g,Bool.false_and];refine acO Bc ?_;simp (disch:=omega) only[CY,unC,k1,go_sem]
  repeat' first|exact wj|with_reducible apply aiA|exact clz|fail
theorem qfC(l:List Un)(c:Int)(k v:Nat)(h:w6)(hk:qv k h=some (.mem v 3 [.int .i64 c]))(hl:l.length<=1000000000):
  ACalls Tryz.prog 92 [zf l,.fn (.func 128) [] [.op k v 0]] h (.int .i64 (fnU l c)) h:=by
 have hc:=qL hk;unfold zf fnU;refine cC Ed l.length (λj=>unC (l.getD j default)) (λj=> .agg (unC (l.getD j default))) _ [] [.op k v 0] _ h (λi _=>⟨rfl,by simp[j0,unC],rfl,rfl,rfl⟩) (λi _=> ?_) om;refine ACalls.borrow ?_ rfl;have e:([AV.agg (unC (l.getD i default))]++ [AV.op k v 0]).map (rei (λ_=>true) h 8)= [.agg (unC (l.getD i default)),.ip [.int .i64 c]]:=by
  simp only[lca,lna,List.map_cons,List.map_nil,rei_op,if_true,hc,ipOf_some,List.drop_zero,rei_agg];rfl
 rw[lna,e];exact qcq _ c _
def fnR(l:List Un)(c:Int):Int:=if c<0 then 0 else fnU l c
def fnE(c:Int):Int:=if c<0 then 2 else 0
theorem Of(l:List Un)(c:Int)(h:w6)(hl:l.length<=1000000000):ACalls Tryz.prog 71 [zf l,.int .i64 c] h (.tup [.int .i64 (fnR l c),.int .i64 (fnE c)]) h:=by
 unfold fnR fnE
 by_cases g:c<0
 ·have k1:(c<0)=True:=eqt g;rw[ipo g,ipo g];refine acO N9 ?_;simp (disch:=omega) only[qbV,k1,go_sem]
  repeat' first|exact wj|with_reducible apply aiA|exact clz|fail
 ·have k1:(c<0)=False:=eqf g;rw[ine g,ine g];have c1:=qfC l c h.length 1 (h++ [.mem 1 3 [.int .i64 c]]) (by rw[getO_app0];rfl) hl;refine acO N9 ?_;simp (disch:=omega) only[qbV,k1,go_sem]
  repeat' first|(refine cA (c1) flk ?_;simp (disch:=omega) only[go_sem])|exact wj|with_reducible apply aiA|exact clz|fail
theorem qfR(r:Rd)(s:Int)(h:w6)(hr:r.src.length<=1000000000):ACalls Tryz.prog 113 [.agg (rdC r),.ip [.int .i64 s]] h (.bool (decide (s∈r.src))) h:=by
 have c1:=λh=>WF r.src s h hr
 unfold qz at c1;refine acO LY ?_;simp (disch:=omega) only[HM,rdC,qz,go_sem]
 repeat' first|(refine cA (c1 _) flk ?_;simp (disch:=omega) only[go_sem])|exact wj|with_reducible apply aiA|exact clz|fail
theorem qfD(L:List Rd)(s:Int)(k v:Nat)(h:w6)(hk:qv k h=some (.mem v 3 [.int .i64 s]))(hl:L.length<=1000000000)(hr: ∀j,(L.getD j default).src.length<=1000000000):
  ACalls Tryz.prog 102 [j6 L,.fn (.func 113) [] [.op k v 0]] h (.int .i64 (lE L s)) h:=by
 have hc:=qL hk;unfold j6 lE;refine cC Q8 L.length (λj=>rdC (L.getD j default)) (λj=> .agg (rdC (L.getD j default))) _ [] [.op k v 0] _ h (λi _=>⟨rfl,by simp[j0,rdC],rfl,rfl,rfl⟩) (λi _=> ?_) om;refine ACalls.borrow ?_ rfl;have e:([AV.agg (rdC (L.getD i default))]++ [AV.op k v 0]).map (rei (λ_=>true) h 8)= [.agg (rdC (L.getD i default)),.ip [.int .i64 s]]:=by
  simp only[lca,lna,List.map_cons,List.map_nil,rei_op,if_true,hc,ipOf_some,List.drop_zero,rei_agg];rfl
 rw[lna,e];exact qfR _ s _ (hr i)
def dF(L:List Rd)(s:Int):Int:=if lE L s<0 then 0 else lE L s
def Pv(L:List Rd)(s:Int):Int:=if lE L s<0 then 6 else 0
theorem qfS(u:Un)(s:Int)(h:w6)(hl:u.rds.length<=1000000000)(hr: ∀j,(u.rds.getD j default).src.length<=1000000000):ACalls Tryz.prog 59 [.agg (unC u),.int .i64 s] h (.tup [.int .i64 (dF u.rds s),.int .i64 (Pv u.rds s)]) h:=by
 have c1:=qfD u.rds s (h.length+1) 1 (h++ [.mem 1 64 (unC u),.mem 1 3 [.int .i64 s]]) (by simp only[go_sem]) hl hr;unfold dF Pv;obtain⟨n,hn⟩:=wD (lE u.rds s)
 rw[<-hn]at c1 ⊢;unfold unC at c1
 by_cases g:n<0
 ·have k1:(n<0)=True:=eqt g;rw[ipo g,ipo g];refine acO N6 ?_;simp (disch:=omega) only[qbS,unC,go_sem]
  repeat' first|(refine cA (c1) flk ?_;simp (disch:=omega) only[k1,go_sem])|exact wj|with_reducible apply aiA|exact clz|fail
 ·have k1:(n<0)=False:=eqf g;rw[ine g,ine g];refine acO N6 ?_;simp (disch:=omega) only[qbS,unC,go_sem]
  repeat' first|(refine cA (c1) flk ?_;simp (disch:=omega) only[k1,go_sem])|exact wj|with_reducible apply aiA|exact clz|fail
def rnX(x:Co):List w7:=(fa (cmB x) x.col.length).map λr=> [.int .i64 (r.1:Int),.int .i64 (r.2:Int)]
theorem qeL(x:Co)(h:w6):ACalls Tryz.prog 89 [.agg (coC x)] h (.fn (.func 144) [] [.ip (coC x)]) h:=by
 unfold coC;refine acO qcO ?_;simp (disch:=omega) only[qev,go_sem]
 repeat' first|exact wj|fail
theorem qfW(u:Un)(f t:Int)(h:w6):ACalls Tryz.prog 178 [.agg (unC u),.ip [.int .i64 f],.ip [.int .i64 t]] h (.bool (decide (u.frm<=f)&&decide (t<=u.to))) h:=by
 by_cases g:u.frm<=f
 ·have k1:(u.frm<=f)=True:=eqt g;rw[dqt g,Bool.true_and];refine acO Bg ?_;simp (disch:=omega) only[C2,unC,k1,go_sem]
  repeat' first|exact wj|with_reducible apply aiA|exact clz|fail
 ·have k1:(u.frm<=f)=False:=eqf g;rw[dqf g,Bool.false_and];refine acO Bg ?_;simp (disch:=omega) only[C2,unC,k1,go_sem]
  repeat' first|exact wj|with_reducible apply aiA|exact clz|fail
theorem OV{p:Nat->Bool}{n f t:Nat}(h1:f<=t)(h2:t<=n)(h3: ∀j,f<=j->j<t->p j=false)(h4:t<n->p t=true):nxt p (n-f) f=t:=by
 obtain⟨a1,a2,a3,a4⟩:=pi p (n-f) f;rcases Nat.lt_trichotomy (nxt p (n-f) f) t with h|h|h
 ·have:=a4 om
  rw[h3 _ a1 h]at this;cases this
 ·exact h
 ·have:=h4 om
  rw[a3 t h1 h]at this;cases this
theorem PP{x:Co}{pre rest:List (Nat×Nat)}{r:Nat×Nat}(h:fa (cmB x) x.col.length=pre++r::rest): ∃g:pre.length<(rnX x).length,(rnX x)[pre.length]= [.int .i64 (r.1:Int),.int .i64 (r.2:Int)]:=by
 unfold rnX;refine⟨by rw[h];simp,?_⟩;simp only[h,List.getElem_map];rw[List.getElem_append_right (nlr _)];simp
structure RnS where
 f:Nat
 D:Nat
 pre:List (Nat×Nat)
 hh:w6
theorem itR(x:Co)(ho:CoOk x)(hn:x.col.length<=1000000000):tV Tryz.prog 144 [.ip (coC x)] (rnX x):=by
 intro h ts LI S E hS hE body start hts;have hcom:=λk h hk=>cmP (x:=x) (k:=k) h ho hk
 obtain⟨p,hp⟩:=wD (cmB x)
 have hxl:(rnX x).length=(fa p x.col.length).length:=by rw[hp];simp[rnX]
 have hat:= @PP x;rw[<-hp]at hat;rw[<-hp]at hcom;refine acQ MH ?_;simp (disch:=omega) only[H7,coC,go_sem];refine qp (T:=λi:RnS=>zw 36 [(0,.yld h.length),(1,.ip (coC x)),(3,.int .i64 i.f)]) (H:=λi=>i.hh++ [.lp .ready ts LI])
  (inv:=λi=>i.f<=x.col.length+1∧x.col.length-i.f<i.D∧fa p x.col.length=i.pre++wq p x.col.length i.D i.f∧S i.pre.length i.hh) (m:=λi=>x.col.length+1-i.f) ⟨0,x.col.length+1,[],h⟩ ⟨nzl _,by simp only;omega,rfl,start⟩ (Wk.temps ?_) ?_
 ·(simp only[coC,go_sem,qg,qc,qf];try exact wr)
 rintro⟨f,D,pre,hh⟩ ⟨i1,i2,i3,i4⟩ K hK;simp only at i1 i2 i3 i4 hK;obtain⟨hlen,hlow⟩:=hS _ _ i4;have hb:(h++ [AObj.lp LS.ready ts LI]).length=(hh++ [AObj.lp LS.ready ts LI]).length:=by simp[hlen]
 by_cases hi:f<x.col.length
 ·have q0:((f:Int)<x.col.length)=True:=xv;obtain⟨D',rfl⟩: ∃D',D=D'+1:=⟨D-1,om⟩
  have hD:wq p x.col.length (D'+1) f=(if f<nxt p (x.col.length-f) f then [(f,nxt p (x.col.length-f) f)] else [])++wq p x.col.length D' (nxt p (x.col.length-f) f+1):=by
   conv=>lhs;unfold wq
   rw[ine om]
  simp (disch:=omega) only[coC,qo,q0,go_sem]
  repeat' first|with_reducible apply aiA|exact clz|fail
  refine qp (T:=λt:Nat=>zw 36 [(0,.yld h.length),(1,.ip (coC x)),(3,.int .i64 f),(4,.int .i64 t)]) (H:=λ_=>hh++ [.lp .ready ts LI])
   (inv:=λt=>f<=t∧t<=x.col.length∧ ∀j,f<=j->j<t->p j=false) (m:=λt=>x.col.length-t) f ⟨nlr _,om,λj h1 h2=>by omega⟩ (Wk.temps ?_) ?_
  ·(simp only[coC,go_sem,qg,qc,qa,qf];try exact wr)
  rintro t ⟨t1,t2,t3⟩ K2 hK2;have fin:(t<x.col.length->p t=true)->wq p x.col.length (D'+1) f=(if f<t then [(f,t)] else [])++wq p x.col.length D' (t+1):=λh4=>by
   rw[hD,OV t1 t2 t3 h4]
  have hend: ∀hh',wq p x.col.length (D'+1) f=(if f<t then [(f,t)] else [])++wq p x.col.length D' (t+1)->S (pre++if f<t then [(f,t)] else []).length hh'->fa p x.col.length=(pre++if f<t then [(f,t)] else [])++wq p x.col.length D' (t+1):=λhh' h1 _=>by
   rw[i3,h1,List.append_assoc]
  by_cases ht:t<x.col.length
  ·have q1:((t:Int)<x.col.length)=True:=xv;have c1:=λh=>hcom t h ht
   cases hpt:p t with
   |false=>
    rw[hpt]at c1;unfold coC qo at c1;simp (disch:=omega) only[coC,qo,q1,go_sem]
    repeat' first|(refine cG (λe=>c1 _) flk ?_;simp (disch:=omega) only[go_sem])|with_reducible apply aiA|exact clz|fail
    refine hK2 _ _ (t+1) ⟨om,ht,λj h1 h2=> ?_⟩ om (Wk.temps ?_)
    ·by_cases e:j=t
     ·subst e;exact hpt
     ·exact t3 j h1 om
    ·(simp only[coC,go_sem,qg,qc,qa,qf];try exact wr)
   |true=>
    rw[hpt]at c1;have hf:=fin λ_=>hpt
    unfold coC qo at c1
    by_cases gt:f<t
    ·have q2:((f:Int)<t)=True:=xv;rw[ipo gt]at hf;rw[hf]at i3;obtain⟨hdl,hxx⟩:=hat (pre:=pre) (r:=(f,t)) (rest:=wq p x.col.length D' (t+1)) i3;have hb':=body pre.length hh [] hdl i4;rw[hxx]at hb';have i5:fa p x.col.length=(pre++ [(f,t)])++wq p x.col.length D' (t+1):=by rw[i3];simp
     simp (disch:=omega) only[coC,qo,q1,go_sem]
     repeat' first|(refine cG (λe=>c1 _) flk ?_;simp (disch:=omega) only[q2,go_sem])|with_reducible apply aiA|exact clz|fail
     ·exact⟨.ready,ts,LI,kT hlen⟩
     ·refine kf.mono ?_ hb';rintro v h' ⟨hh',⟨rfl,hn',rfl⟩|⟨st,rfl,hs',rfl⟩⟩
      ·simp (disch:=omega) only[go_sem];refine hK _ _ ⟨t+1,D',pre++ [(f,t)],hh'⟩ ⟨by simp only;omega,by simp only;omega,i5,by simp only[lap,lco,lnl];exact hn'⟩ (by simp only;omega) (Wk.temps ?_)
       (simp only[coC,go_sem,qg,qc,qa,qf];try exact wr)
      ·simp (disch:=omega) only[go_sem];obtain⟨r1,r2⟩:=(hE _ _ hs').ret (L:=LI) st hts;exact jR trivial r1 r2 ⟨_,.inr ⟨st,hs',rfl⟩⟩ (qi)
    ·have q2:((f:Int)<t)=False:=xD;rw[ine gt,lna]at hf;rw[hf]at i3;simp (disch:=omega) only[coC,qo,q1,go_sem]
     repeat' first|(refine cG (λe=>c1 _) flk ?_;simp (disch:=omega) only[q2,go_sem])|with_reducible apply aiA|exact clz|fail
     refine hK _ _ ⟨t+1,D',pre,hh⟩ ⟨by simp only;omega,by simp only;omega,i3,i4⟩ (by simp only;omega) (Wk.temps ?_)
     (simp only[coC,go_sem,qg,qc,qa,qf];try exact wr)
  ·have q1:((t:Int)<x.col.length)=False:=xD;have hf:=fin λhx=>absurd hx ht
   by_cases gt:f<t
   ·have q2:((f:Int)<t)=True:=xv;rw[ipo gt]at hf;rw[hf]at i3;obtain⟨hdl,hxx⟩:=hat (pre:=pre) (r:=(f,t)) (rest:=wq p x.col.length D' (t+1)) i3;have hb':=body pre.length hh [] hdl i4;rw[hxx]at hb';have i5:fa p x.col.length=(pre++ [(f,t)])++wq p x.col.length D' (t+1):=by rw[i3];simp
    simp (disch:=omega) only[coC,qo,q1,go_sem]
    repeat' first|(refine qj ( .bool false) ?_;simp (disch:=omega) only[q2,go_sem])|with_reducible apply aiA|exact clz|fail
    ·exact⟨.ready,ts,LI,kT hlen⟩
    ·refine kf.mono ?_ hb';rintro v h' ⟨hh',⟨rfl,hn',rfl⟩|⟨st,rfl,hs',rfl⟩⟩
     ·simp (disch:=omega) only[go_sem];refine hK _ _ ⟨t+1,D',pre++ [(f,t)],hh'⟩ ⟨by simp only;omega,by simp only;omega,i5,by simp only[lap,lco,lnl];exact hn'⟩ (by simp only;omega) (Wk.temps ?_)
      (simp only[coC,go_sem,qg,qc,qa,qf];try exact wr)
     ·simp (disch:=omega) only[go_sem];obtain⟨r1,r2⟩:=(hE _ _ hs').ret (L:=LI) st hts;exact jR trivial r1 r2 ⟨_,.inr ⟨st,hs',rfl⟩⟩ (qi)
   ·exact absurd (show f<t by omega) gt
 ·have q0:((f:Int)<x.col.length)=False:=xD;have hD:wq p x.col.length D f= []:=by
   cases D with
   |zero=>rfl
   |succ D=>unfold wq;rw[ipo om]
  rw[hD,lan]at i3;simp (disch:=omega) only[coC,qo,q0,go_sem]
  repeat' first|with_reducible apply aiA|exact clz|fail
  obtain⟨r1,r2⟩:=(hS _ _ i4).ret (L:=LI) .ready hts;exact jR trivial r1 r2 ⟨hh,.inl ⟨by rw[hxl,i3];exact i4,rfl⟩⟩ (qi)
structure bo (l:List Un):Prop where
 n:l.length<=1000000000
 rd: ∀i,(l.getD i default).rds.length<=1000000000
 sr: ∀i j,((l.getD i default).rds.getD j default).src.length<=1000000000
 wd: ∀i j,((l.getD i default).rds.getD j default).words.length<=1000000000
structure AO (L:List Rd):Prop where
 n:L.length<=1000000000
 sr: ∀j,(L.getD j default).src.length<=1000000000
 wd: ∀j,(L.getD j default).words.length<=1000000000
theorem qbx(a b:List Str)(h:w6)(h1:a.length<=1000000000)(h2:b.length<=1000000000):ACalls Tryz.prog 36 [strs a,strs b] h (.bool (decide (a=b))) h:=by
 have c:=qcl a b.length (λj=>b.getD j []) h h1 h2;have e:decide (a.length=b.length∧ ∀i,i<a.length->a.getD i []=b.getD i [])=decide (a=b):=decide_eq_decide.2 (yn ([]:Str)).symm;rw[e]at c;exact c
theorem qfk(a b:List Int)(h:w6)(h1:a.length<=1000000000)(h2:b.length<=1000000000):ACalls Tryz.prog 45 [qz a,qz b] h (.bool (decide (a=b))) h:=by
 have c:=qbw N5 a.length b.length (λj=> .i (a.getD j 0)) (λj=> .i (b.getD j 0)) h (λ_ _ _=>rfl) om om;simp only[At.v,At.i.injEq]at c;have e:decide (a.length=b.length∧ ∀i,i<a.length->a.getD i 0=b.getD i 0)=decide (a=b):=decide_eq_decide.2 (yn (0:Int)).symm;rw[e]at c;exact c
theorem qdq{r s:Rd}:r=s↔r.words=s.words∧r.src=s.src:=by
 cases r;cases s;simp
theorem qf2(r s:Rd)(h:w6)(h1:r.words.length<=1000000000)(h2:s.words.length<=1000000000)(h3:r.src.length<=1000000000)(h4:s.src.length<=1000000000):ACalls Tryz.prog 238 [.agg (rdC r),.agg (rdC s)] h (.bool (decide (r=s))) h:=by
 have c1:=λh=>qbx r.words s.words h h1 h2
 have c2:=λh=>qfk r.src s.src h h3 h4
 have e:decide (r=s)=(decide (r.words=s.words)&&decide (r.src=s.src)):=by rw[<-Bool.decide_and];exact decide_eq_decide.2 qdq
 rw[e];obtain⟨a,ha⟩:=wD (decide (r.words=s.words))
 obtain⟨b,hb⟩:=wD (decide (r.src=s.src))
 rw[<-ha,<-hb];simp only[<-ha]at c1;simp only[<-hb]at c2;cases a with
 |true=>
  rw[Bool.true_and];refine acO Bo ?_;simp (disch:=omega) only[C9,rdC,go_sem]
  repeat' first|((first|refine cA (c1 _) ?_ ?_|refine cG (λe=>c2 _) ?_ ?_);exact flk;simp (disch:=omega) only[go_sem])|exact wj|with_reducible apply aiA|exact clz|fail
 |false=>
  rw[Bool.false_and];refine acO Bo ?_;simp (disch:=omega) only[C9,rdC,go_sem]
  repeat' first|(refine qj ( .bool false) ?_;simp (disch:=omega) only[go_sem])|(refine cA (c1 _) flk ?_;simp (disch:=omega) only[go_sem])|exact wj|fail
theorem efP(a b:List Rd)(h:w6)(za:AO a)(zb:AO b):ACalls Tryz.prog 237 [j6 a,j6 b,.fn (.func 238) [] []] h (.bool (decide (a=b))) h:=by
 have ha:=za.n;have hb:=zb.n;have he:decide (a=b)=decide (a.length=b.length∧ ∀i,i<a.length->a.getD i default=b.getD i default):=decide_eq_decide.2 (yn (default:Rd));obtain⟨R,hR⟩:=wD (decide (a=b))
 rw[<-hR]at he ⊢
 by_cases g:a.length=b.length
 case neg=>
  have k1:((a.length:Int)=b.length)=False:=xD;rw[dqf (λhc=>g hc.1)]at he;rw[he];refine acO Bn ?_;simp (disch:=omega) only[C7,j6,k1,go_sem]
  repeat' first|exact wj|fail
 have k1:((a.length:Int)=b.length)=True:=xv;refine acO Bn ?_;simp (disch:=omega) only[C7,j6,k1,go_sem];refine qp (T:=λi:Nat×AObj×AObj=>zw 32 [(1,j6 b),(2,.fn (.func 238) [] []),(15,j6 a),(16,.int .i64 a.length),(17,.int .i64 i.1)]) (H:=λi=>h++ [i.2.1,i.2.2])
  (inv:=λi=>i.1<=a.length∧qK [i.2.1] 0=true∧qK [i.2.2] 0=true∧ ∀j,j<i.1->a.getD j default=b.getD j default) (m:=λi=>a.length-i.1) (0,.emp 0,.emp 0) ⟨nzl _,rfl,rfl,λj hj=>absurd hj (nnz j)⟩ (Wk.temps ?_) ?_
 ·(simp only[j6,go_sem,qg,qc,qa,qf];try exact wr)
 rintro⟨i,O1,O2⟩ ⟨i1,j1,j2,i2⟩ K hK;simp only at i1 j1 j2 i2 hK;have j1': ∀m,qK (O1::m) 0=true:=λ_=>j1
 have j2': ∀m,qK (O2::m) 0=true:=λ_=>j2
 by_cases hi:i<a.length
 ·have k2:((i:Int)<a.length)=True:=xv;have k3:((i:Int)<b.length)=True:=xv;have c1:=λh=>qf2 (a.getD i default) (b.getD i default) h (za.wd i) (zb.wd i) (za.sr i) (zb.sr i)
  have hno: ¬a.getD i default=b.getD i default->R=false:=λhx=>by rw[he];exact dqf λhc=>hx (hc.2 i hi)
  have hS:a.getD i default=b.getD i default-> ∀j,j<i+1->a.getD j default=b.getD j default:=λhx j hj=>by
   by_cases e:j=i
   ·subst e;exact hx
   ·exact i2 j om
  obtain⟨r,hr⟩:=wD (a.getD i default)
  obtain⟨s,hs⟩:=wD (b.getD i default)
  have er:=hr.symm;have es:=hs.symm;rw[er,es]at hno hS;simp only[er,es]at c1;unfold rdC at c1
  by_cases g2:r=s
  ·have k4:decide (r=s)=true:=dqt g2;simp only[k4]at c1;simp (disch:=omega) only[j6,rdC,k2,k3,er,es,j1',j2',go_sem]
   repeat' first|(refine qy (c1 _) ?_;simp (disch:=omega) only[go_sem])|with_reducible apply aiA|exact clz|fail
   refine hK _ _ (i+1,_,_) ⟨hi,rfl,rfl,hS g2⟩ (by simp only;omega) (Wk.temps ?_)
   (simp only[j6,go_sem,qg,qc,qa,qf];try exact wr)
  ·have k4:decide (r=s)=false:=dqf g2;simp only[k4]at c1;rw[hno g2];simp (disch:=omega) only[j6,rdC,k2,k3,er,es,j1',j2',go_sem]
   repeat' first|(refine qy (c1 _) ?_;simp (disch:=omega) only[go_sem])|exact wj|with_reducible apply aiA|exact clz|fail
 ·have k2:((i:Int)<a.length)=False:=xD;rw[he,dqt ⟨g,λj hj=>i2 j om⟩];simp (disch:=omega) only[j6,k2,go_sem]
  repeat' first|exact wj|fail
theorem qf3(a b:List Rd)(h:w6)(za:AO a)(zb:AO b):ACalls Tryz.prog 177 [j6 a,j6 b] h (.bool (decide (a=b))) h:=by
 have c1:=λh=>efP a b h za zb
 refine acO MW ?_;simp (disch:=omega) only[Ij,go_sem]
 repeat' first|(refine cA (c1 _) flk ?_;simp (disch:=omega) only[go_sem])|exact wm|fail
theorem qfU(r s:Rd)(h:w6)(h1:r.words.length<=1000000000)(h2:s.words.length<=1000000000):ACalls Tryz.prog 148 [.agg (rdC r),.agg (rdC s)] h (.bool (decide (r.words=s.words))) h:=by
 have c1:=λh=>qbx r.words s.words h h1 h2
 refine acO ML ?_;simp (disch:=omega) only[Ib,rdC,go_sem]
 repeat' first|(refine cA (c1 _) flk ?_;simp (disch:=omega) only[go_sem])|exact wj|fail
theorem fd1(r y:Rd)(h:w6)(h1:r.words.length<=1000000000)(h2:y.words.length<=1000000000):ACalls Tryz.prog 195 [.agg (rdC y),.ip [.fn (.func 148) [] []],.ip (rdC r)] h (.bool (decide (r.words=y.words))) h:=by
 have c1:=λh=>qfU r y h h1 h2
 unfold rdC at c1;refine acO Nb ?_;simp (disch:=omega) only[Iw,rdC,go_sem]
 repeat' first|(refine qy (c1 _) ?_;simp (disch:=omega) only[go_sem])|exact wj|with_reducible apply aiA|exact clz|fail
theorem fdP(L:List Rd)(r:Rd)(h:w6)(hL:L.length<=1000000000)(h1:r.words.length<=1000000000)(h2: ∀j,(L.getD j default).words.length<=1000000000):ACalls Tryz.prog 147 [j6 L,.agg (rdC r),.fn (.func 148) [] []] h (.int .i64 (pp L r.words)) h:=by
 have c1: ∀k v k2 v2 H,qv k H=some (.mem v 97 (rdC r))->qv k2 H=some (.mem v2 192 [.fn (.func 148) [] []])->
   ACalls Tryz.prog 102 [j6 L,.fn (.func 195) [] [.op k2 v2 0,.op k v 0]] H (.int .i64 (pp L r.words)) H:=λk v k2 v2 H hk hk2=>by
  have hc:=qL hk;have hc2:=qL hk2;unfold j6 pp;refine cC Q8 L.length (λj=>rdC (L.getD j default)) (λj=> .agg (rdC (L.getD j default))) _ [] [.op k2 v2 0,.op k v 0] _ H (λi _=>⟨rfl,by simp[j0,rdC],rfl,rfl,rfl⟩) (λi _=> ?_) om;refine ACalls.borrow ?_ rfl;have e:([AV.agg (rdC (L.getD i default))]++ [AV.op k2 v2 0,AV.op k v 0]).map (rei (λ_=>true) H 8)= [.agg (rdC (L.getD i default)),.ip [.fn (.func 148) [] []],.ip (rdC r)]:=by
   simp only[lca,lna,List.map_cons,List.map_nil,rei_op,if_true,hc,hc2,ipOf_some,List.drop_zero,rei_agg];rfl
  rw[lna,e];exact fd1 r _ _ h1 (h2 i)
 have c2:=c1 h.length 1 (h.length+1) 1 (h++ [.mem 1 97 (rdC r),.mem 1 192 [.fn (.func 148) [] []]]) (by rw[getO_app0];rfl) (by simp only[go_sem]);unfold rdC at c2;refine acO MK ?_;simp (disch:=omega) only[Ia,rdC,go_sem]
 repeat' first|(refine cA (c2) flk ?_;simp (disch:=omega) only[go_sem])|exact wj|fail
def gnB(sec:Str)(sig:List Str):Bool:=jx (λi=>decide (20<(sig.getD i []).length)) sig.length||decide (20<sec.length)
theorem gnP(sec:Str)(sig:List Str)(h:w6)(hn:sig.length<=9223372036854775807):ACalls Tryz.prog 86 [.str sec,strs sig] h (.bool (gnB sec sig)) h:=by
 obtain⟨R,hR⟩:=wD (gnB sec sig)
 rw[<-hR];unfold gnB at hR;refine acO qcM ?_;simp (disch:=omega) only[qet,strs,go_sem];refine qp (T:=λi:Nat=>zw 21 [(0,.str sec),(1,strs sig),(5,.int .i64 i)]) (H:=λ_=>h) (inv:=λi=>i<=sig.length∧ ∀j,j<i->(λi=>decide (20<(sig.getD i []).length)) j=false) (m:=λi=>sig.length-i) 0 ⟨nzl _,λj hj=>absurd hj (nnz j)⟩ (Wk.temps ?_) ?_
 ·(simp only[strs,go_sem,qg,qc,qa,qf];try exact wr)
 rintro i ⟨i1,i2⟩ K hK
 by_cases hi:i<sig.length
 ·have k1:((i:Int)<sig.length)=True:=xv
  by_cases g:20<(sig.getD i []).length
  ·have hV:R=true:=by rw[hR,qS.2 ⟨i,hi,dqt g⟩];rfl
   obtain⟨s,hs⟩:=wD (sig.getD i [])
   have es:=hs.symm;rw[es]at g;have k2:((20:Int)<s.length)=True:=xv;rw[hV];simp (disch:=omega) only[strs,k1,k2,es,go_sem]
   repeat' first|exact wm|with_reducible apply aiA|exact clz|fail
  ·have i3:=xJ i2 (dqf g);obtain⟨s,hs⟩:=wD (sig.getD i [])
   have es:=hs.symm;rw[es]at g;have k2:((20:Int)<s.length)=False:=xD;simp (disch:=omega) only[strs,k1,k2,es,go_sem]
   repeat' first|with_reducible apply aiA|exact clz|fail
   refine hK _ _ (i+1) ⟨hi,i3⟩ om (Wk.temps ?_)
   (simp only[strs,go_sem,qg,qc,qa,qf];try exact wr)
 have k1:((i:Int)<sig.length)=False:=xD;rw[qr.2 (λj hj=>i2 j om),Bool.false_or]at hR;have e1:decide ((20:Int)<sec.length)=decide (20<sec.length):=decide_eq_decide.2 om;rw[hR,<-e1];simp (disch:=omega) only[strs,k1,go_sem]
 repeat' first|exact wm|fail
def aM(t:Tk):Bool:=decide (12<t.text.length)||(decide (12<t.norm.length)||(decide (20<t.page.length)||decide (20<t.name.length)))
def dC(i:Nat)(r:List Tk):Bool:=decide (6<r.length)||((decide (4<=i)&&decide (1<r.length))||jx (λk=>aM (r.getD k default)) r.length)
def prN(L:List (List Tk)):Nat->Nat
 |0=>1
 |i+1=>if i<4 then prN L i*((L.getD i []).length+1) else prN L i
def gtB(L:List (List Tk)):Bool:=jx (λi=>dC i (L.getD i [])) L.length||(decide (400<prN L L.length)||((decide (6<L.length)&&decide (L.length<=32))||decide (34<L.length)))
theorem Pl{L:List (List Tk)}: ∀ {n:Nat},(∀i,i<n->(L.getD i []).length<=6)->prN L n<=7^min n 4:=by
 intro n
 induction n with
 |zero=>intro _;exact nlr _
 |succ n ih=>
  intro h;have h1:=ih λi hi=>h i om
  have h2:=h n om;unfold prN;split
  ·rename_i g;rw[show min n 4=n by omega]at h1;rw[show min (n+1) 4=n+1 by omega,Nat.pow_succ];exact Nat.mul_le_mul h1 om
  ·rename_i g;rw[show min n 4=4 by omega]at h1;rw[show min (n+1) 4=4 by omega];exact h1
theorem gtP(L:List (List Tk))(h:w6)(hn:L.length<=9223372036854775807):ACalls Tryz.prog 85 [qm L] h (.bool (gtB L)) h:=by
 obtain⟨R,hR⟩:=wD (gtB L)
 rw[<-hR];unfold gtB at hR;refine acO qcL ?_;simp (disch:=omega) only[qes,qm,go_sem];refine qp (T:=λi:Nat×AObj=>zw 97 [(0,qm L),(3,.int .i64 (prN L i.1:Int)),(4,.int .i64 i.1)]) (H:=λi=>h++ [i.2]) (inv:=λi=>i.1<=L.length∧qK [i.2] 0=true∧ ∀j,j<i.1->(λi=>dC i (L.getD i [])) j=false) (m:=λi=>L.length-i.1) (0,.emp 0) ⟨nzl _,rfl,λj hj=>absurd hj (nnz j)⟩ (Wk.temps ?_) ?_
 ·(simp only[qm,prN,go_sem,qg,qc,qa,qf];try exact wr)
 rintro⟨i,O⟩ ⟨i1,i2,i3⟩ K hK;simp only at i1 i2 i3 hK;have i2': ∀m,qK (O::m) 0=true:=λ_=>i2
 have h6: ∀j,j<i->(L.getD j []).length<=6:=λj hj=>by
  have:=i3 j hj
  unfold dC at this;simp only[Bool.or_eq_false_iff,decide_eq_false_iff_not]at this;omega
 have hp:=Pl h6;have hp2:prN L i<=2401:=by
  have:7^min i 4<=7^4:=Nat.pow_le_pow_right om (Nat.min_le_right _ _)
  have h3:(7:Nat)^4=2401:=rfl;omega
 have hst:prN L (i+1)=if i<4 then prN L i*((L.getD i []).length+1) else prN L i:=rfl
 obtain⟨q,hq⟩:=wD (prN L i)
 have eq:=hq.symm;rw[eq]at hp2 hst
 by_cases hi:i<L.length
 ·have k1:((i:Int)<L.length)=True:=xv;have hit:dC i (L.getD i [])=true->R=true:=λhc=>by rw[hR,qS.2 ⟨i,hi,hc⟩];rfl
  have i4:=λhc=>xJ (p:=λi=>dC i (L.getD i [])) i3 hc
  obtain⟨r,hr⟩:=wD (L.getD i [])
  have er:=hr.symm;rw[er]at hst hit;simp only[er]at i4;have hB:dC i r=(decide (6<r.length)||((decide (4<=i)&&decide (1<r.length))||jx (λk=>aM (r.getD k default)) r.length)):=rfl
  by_cases g1:6<r.length
  ·have k2:((6:Int)<r.length)=True:=xv;rw[hit (by rw[hB,dqt g1];rfl)];simp (disch:=omega) only[qm,zX,k1,k2,er,eq,go_sem]
   repeat' first|exact wj|(with_reducible first|intro _|apply aiA)|exact clz|fail
  have k2:((6:Int)<r.length)=False:=xD;rw[dqf g1,Bool.false_or]at hB;have hq':q*(r.length+1)<=2401*7:=Nat.mul_le_mul hp2 om;have hmul:(q:Int)*((r.length:Int)+1)=((q*(r.length+1):Nat):Int):=by push_cast;rfl
  have m2:(((q*(r.length+1):Nat):Int)<=9223372036854775807)=True:=xv;have m3:(-9223372036854775808<=((q*(r.length+1):Nat):Int))=True:=xv
  by_cases gg:4<=i∧1<r.length
  ·have k3:((4:Int)<=i)=True:=xv;have k5:((1:Int)<r.length)=True:=xv;rw[hit (by rw[hB,dqt gg.1,dqt gg.2];rfl)];simp (disch:=omega) only[qm,zX,k1,k2,k3,k5,er,eq,go_sem]
   repeat' first|exact wj|with_reducible apply aiA|exact clz|fail
  have hB':dC i r=jx (λk=>aM (r.getD k default)) r.length:=by
   rw[hB]
   have:(decide (4<=i)&&decide (1<r.length))=false:=by
    rw[<-Bool.decide_and];exact dqf gg
   rw[this,Bool.false_or]
  rcases Nat.lt_or_ge i 4 with gi|gi
  ·have k3:((4:Int)<=i)=False:=xD;have k4:((i:Int)<4)=True:=xv;rw[ipo gi]at hst;simp (disch:=omega) only[qm,zX,k1,k2,k3,k4,er,eq,hmul,go_sem]
   repeat' first|(apply qb;exact rvk;simp only[go_sem];apply qd)|(with_reducible first|intro _|apply aiA)|exact clz|fail
   refine qp (T:=λk:Nat×AObj=>zw 97 [(0,qm L),(3,.int .i64 ((q*(r.length+1):Nat):Int)),(4,.int .i64 i),(5,.int .i64 k.1)]) (H:=λk=>h++ [k.2]) (inv:=λk=>k.1<=r.length∧qK [k.2] 0=true∧ ∀j,j<k.1->(λk=>aM (r.getD k default)) j=false) (m:=λk=>r.length-k.1) (0,O) ⟨nzl _,i2,λj hj=>absurd hj (nnz j)⟩ (Wk.temps ?_) ?_
   ·(simp only[qm,go_sem,qg,qc,qa,qf];try exact wr)
   rintro⟨k,O'⟩ ⟨u1,u2,u3⟩ K2 hK2;simp only at u1 u2 u3 hK2;have u2': ∀m,qK (O'::m) 0=true:=λ_=>u2
   by_cases hk:k<r.length
   ·have t1:((k:Int)<r.length)=True:=xv;have hbit:aM (r.getD k default)=true->R=true:=λhc=>hit (by rw[hB',qS];exact⟨k,hk,hc⟩)
    have u4:=λhc=>xJ (p:=λk=>aM (r.getD k default)) u3 hc
    obtain⟨t,ht⟩:=wD (r.getD k default)
    have et:=ht.symm;rw[et]at hbit;simp only[et]at u4;have hT:aM t=(decide (12<t.text.length)||(decide (12<t.norm.length)||(decide (20<t.page.length)||decide (20<t.name.length)))):=rfl
    by_cases gA:12<t.text.length
    ·have qA:((12:Int)<t.text.length)=True:=xv;rw[hbit (by rw[hT,dqt gA];simp)];simp (disch:=omega) only[qm,zX,tkC,k1,t1,er,et,u2',qA,go_sem]
     repeat' first|exact wj|with_reducible apply aiA|exact clz|fail
    have qA:((12:Int)<t.text.length)=False:=xD
    by_cases gB:12<t.norm.length
    ·have qB:((12:Int)<t.norm.length)=True:=xv;rw[hbit (by rw[hT,dqt gB];simp)];simp (disch:=omega) only[qm,zX,tkC,k1,t1,er,et,u2',qA,qB,go_sem]
     repeat' first|exact wj|with_reducible apply aiA|exact clz|fail
    have qB:((12:Int)<t.norm.length)=False:=xD
    by_cases gC:20<t.page.length
    ·have qC:((20:Int)<t.page.length)=True:=xv;rw[hbit (by rw[hT,dqt gC];simp)];simp (disch:=omega) only[qm,zX,tkC,k1,t1,er,et,u2',qA,qB,qC,go_sem]
     repeat' first|exact wj|with_reducible apply aiA|exact clz|fail
    have qC:((20:Int)<t.page.length)=False:=xD
    by_cases gD:20<t.name.length
    ·have qD:((20:Int)<t.name.length)=True:=xv;rw[hbit (by rw[hT,dqt gD];simp)];simp (disch:=omega) only[qm,zX,tkC,k1,t1,er,et,u2',qA,qB,qC,qD,go_sem]
     repeat' first|exact wj|with_reducible apply aiA|exact clz|fail
    have qD:((20:Int)<t.name.length)=False:=xD;simp (disch:=omega) only[qm,zX,tkC,k1,t1,er,et,u2',qA,qB,qC,qD,go_sem]
    repeat' first|with_reducible apply aiA|exact clz|fail
    refine hK2 _ _ (k+1,_) ⟨hk,rfl,u4 (by rw[hT,dqf gA,dqf gB,dqf gC,dqf gD];rfl)⟩ (by simp only;omega) (Wk.temps ?_)
    (simp only[qm,zX,tkC,go_sem,qg,qc,qa,qf];try exact wr)
   ·have t1:((k:Int)<r.length)=False:=xD;have hz:dC i r=false:=by rw[hB',qr];exact λj hj=>u3 j om
    simp (disch:=omega) only[qm,zX,t1,er,go_sem]
    repeat' first|with_reducible apply aiA|exact clz|fail
    refine hK _ _ (i+1,O') ⟨hi,u2,i4 hz⟩ (by simp only;omega) ?_;simp only[hst];refine Wk.temps ?_
    (simp only[qm,go_sem,qg,qc,qa,qf];try exact wr)
  ·have k3:((4:Int)<=i)=True:=xv;have k4:((i:Int)<4)=False:=xD;have k5:((1:Int)<r.length)=False:=xD;rw[ine om]at hst;simp (disch:=omega) only[qm,zX,k1,k2,k3,k4,k5,er,eq,hmul,go_sem]
   repeat' first|with_reducible apply aiA|exact clz|fail
   refine qp (T:=λk:Nat×AObj=>zw 97 [(0,qm L),(3,.int .i64 (q:Int)),(4,.int .i64 i),(5,.int .i64 k.1)]) (H:=λk=>h++ [k.2]) (inv:=λk=>k.1<=r.length∧qK [k.2] 0=true∧ ∀j,j<k.1->(λk=>aM (r.getD k default)) j=false) (m:=λk=>r.length-k.1) (0,O) ⟨nzl _,i2,λj hj=>absurd hj (nnz j)⟩ (Wk.temps ?_) ?_
   ·(simp only[qm,go_sem,qg,qc,qa,qf];try exact wr)
   rintro⟨k,O'⟩ ⟨u1,u2,u3⟩ K2 hK2;simp only at u1 u2 u3 hK2;have u2': ∀m,qK (O'::m) 0=true:=λ_=>u2
   by_cases hk:k<r.length
   ·have t1:((k:Int)<r.length)=True:=xv;have hbit:aM (r.getD k default)=true->R=true:=λhc=>hit (by rw[hB',qS];exact⟨k,hk,hc⟩)
    have u4:=λhc=>xJ (p:=λk=>aM (r.getD k default)) u3 hc
    obtain⟨t,ht⟩:=wD (r.getD k default)
    have et:=ht.symm;rw[et]at hbit;simp only[et]at u4;have hT:aM t=(decide (12<t.text.length)||(decide (12<t.norm.length)||(decide (20<t.page.length)||decide (20<t.name.length)))):=rfl
    by_cases gA:12<t.text.length
    ·have qA:((12:Int)<t.text.length)=True:=xv;rw[hbit (by rw[hT,dqt gA];simp)];simp (disch:=omega) only[qm,zX,tkC,k1,t1,er,et,u2',qA,go_sem]
     repeat' first|exact wj|with_reducible apply aiA|exact clz|fail
    have qA:((12:Int)<t.text.length)=False:=xD
    by_cases gB:12<t.norm.length
    ·have qB:((12:Int)<t.norm.length)=True:=xv;rw[hbit (by rw[hT,dqt gB];simp)];simp (disch:=omega) only[qm,zX,tkC,k1,t1,er,et,u2',qA,qB,go_sem]
     repeat' first|exact wj|with_reducible apply aiA|exact clz|fail
    have qB:((12:Int)<t.norm.length)=False:=xD
    by_cases gC:20<t.page.length
    ·have qC:((20:Int)<t.page.length)=True:=xv;rw[hbit (by rw[hT,dqt gC];simp)];simp (disch:=omega) only[qm,zX,tkC,k1,t1,er,et,u2',qA,qB,qC,go_sem]
     repeat' first|exact wj|with_reducible apply aiA|exact clz|fail
    have qC:((20:Int)<t.page.length)=False:=xD
    by_cases gD:20<t.name.length
    ·have qD:((20:Int)<t.name.length)=True:=xv;rw[hbit (by rw[hT,dqt gD];simp)];simp (disch:=omega) only[qm,zX,tkC,k1,t1,er,et,u2',qA,qB,qC,qD,go_sem]
     repeat' first|exact wj|with_reducible apply aiA|exact clz|fail
    have qD:((20:Int)<t.name.length)=False:=xD;simp (disch:=omega) only[qm,zX,tkC,k1,t1,er,et,u2',qA,qB,qC,qD,go_sem]
    repeat' first|with_reducible apply aiA|exact clz|fail
    refine hK2 _ _ (k+1,_) ⟨hk,rfl,u4 (by rw[hT,dqf gA,dqf gB,dqf gC,dqf gD];rfl)⟩ (by simp only;omega) (Wk.temps ?_)
    (simp only[qm,zX,tkC,go_sem,qg,qc,qa,qf];try exact wr)
   ·have t1:((k:Int)<r.length)=False:=xD;have hz:dC i r=false:=by rw[hB',qr];exact λj hj=>u3 j om
    simp (disch:=omega) only[qm,zX,t1,er,go_sem]
    repeat' first|with_reducible apply aiA|exact clz|fail
    refine hK _ _ (i+1,O') ⟨hi,u2,i4 hz⟩ (by simp only;omega) ?_;simp only[hst];refine Wk.temps ?_
    (simp only[qm,go_sem,qg,qc,qa,qf];try exact wr)
 have k1:((i:Int)<L.length)=False:=xD;obtain rfl:i=L.length:=by omega
 rw[qr.2 (λj hj=>i3 j hj),Bool.false_or,<-hq]at hR
 by_cases g1:400<q
 ·have k2:((400:Int)<q)=True:=xv;rw[hR,dqt g1,Bool.true_or];simp (disch:=omega) only[qm,k1,k2,eq,go_sem]
  repeat' first|exact wj|fail
 have k2:((400:Int)<q)=False:=xD;rw[dqf g1,Bool.false_or]at hR
 by_cases g2:6<L.length
 ·have k3:((6:Int)<L.length)=True:=xv
  by_cases g3:L.length<=32
  ·have k4:((L.length:Int)<=32)=True:=xv;rw[hR,dqt g2,dqt g3];simp (disch:=omega) only[qm,k1,k2,k3,k4,eq,go_sem]
   repeat' first|exact wj|fail
  have k4:((L.length:Int)<=32)=False:=xD;have e1:decide ((34:Int)<L.length)=decide (34<L.length):=decide_eq_decide.2 om;rw[hR,dqt g2,dqf g3,<-e1];simp (disch:=omega) only[qm,k1,k2,k3,k4,eq,go_sem]
  repeat' first|exact wj|fail
 have k3:((6:Int)<L.length)=False:=xD;have e1:decide ((34:Int)<L.length)=decide (34<L.length):=decide_eq_decide.2 om;rw[hR,dqf g2,<-e1];simp (disch:=omega) only[qm,k1,k2,k3,eq,go_sem]
 repeat' first|exact wj|fail
structure CoB (x:Co):Prop where
 sg:x.sig.length<=9223372036854775807
 tk:x.tok.length<=9223372036854775807
 cl:x.col.length<=9223372036854775807
def BE(x:Co):Bool:=jx (λi=>decide (36<(x.col.getD i []).length)) x.col.length||(gtB x.tok||(decide (24<x.col.length)||(decide (36<x.sig.length)||gnB x.sec x.sig)))
theorem qeC(x:Co)(h:w6)(hb:CoB x):ACalls Tryz.prog 28 [.agg (coC x)] h (.bool (BE x)) h:=by
 have c1:=λh=>gtP x.tok h hb.tk
 have c2:=λh=>gnP x.sec x.sig h hb.sg
 have hc:=hb.cl;obtain⟨R,hR⟩:=wD (BE x)
 rw[<-hR];unfold BE at hR;unfold qm at c1;unfold strs at c2;refine acO qcz ?_;simp (disch:=omega) only[qej,coC,qo,go_sem];refine qp (T:=λi:Nat=>zw 40 [(1,.op h.length 1 0),(3,.int .i64 i)]) (H:=λ_=>h++ [.mem 1 26 (coC x)]) (inv:=λi=>i<=x.col.length∧ ∀j,j<i->(λi=>decide (36<(x.col.getD i []).length)) j=false) (m:=λi=>x.col.length-i) 0 ⟨nzl _,λj hj=>absurd hj (nnz j)⟩ (Wk.temps ?_) ?_
 ·(simp only[go_sem,qg,qc,qa,qf];try exact wr)
 rintro i ⟨i1,i2⟩ K hK
 by_cases hi:i<x.col.length
 ·have k1:((i:Int)<x.col.length)=True:=xv
  by_cases g:36<(x.col.getD i []).length
  ·have hV:R=true:=by rw[hR,qS.2 ⟨i,hi,dqt g⟩];rfl
   obtain⟨s,hs⟩:=wD (x.col.getD i [])
   have es:=hs.symm;rw[es]at g;have k2:((36:Int)<s.length)=True:=xv;rw[hV];simp (disch:=omega) only[coC,qo,qz,k1,k2,es,go_sem]
   repeat' first|exact wj|with_reducible apply aiA|exact clz|fail
  ·have i3:=xJ i2 (dqf g);obtain⟨s,hs⟩:=wD (x.col.getD i [])
   have es:=hs.symm;rw[es]at g;have k2:((36:Int)<s.length)=False:=xD;simp (disch:=omega) only[coC,qo,qz,k1,k2,es,go_sem]
   repeat' first|with_reducible apply aiA|exact clz|fail
   refine hK _ _ (i+1) ⟨hi,i3⟩ om (Wk.temps ?_)
   (simp only[go_sem,qg,qc,qa,qf];try exact wr)
 have k1:((i:Int)<x.col.length)=False:=xD;rw[qr.2 (λj hj=>i2 j om),Bool.false_or]at hR;cases gA:gtB x.tok with
 |true=>
  rw[gA]at hR c1;rw[hR,Bool.true_or];simp (disch:=omega) only[coC,qo,k1,qm,go_sem]
  repeat' first|(refine qj ( .bool false) ?_;simp (disch:=omega) only[go_sem])|(refine cA (c1 _) flk ?_;simp (disch:=omega) only[go_sem])|exact wj|with_reducible apply aiA|exact clz|fail
 |false=>
 rw[gA]at hR c1;rw[Bool.false_or]at hR
 by_cases g2:24<x.col.length
 ·have k2:((24:Int)<x.col.length)=True:=xv;rw[hR,dqt g2,Bool.true_or];simp (disch:=omega) only[coC,qo,k1,qm,go_sem]
  repeat' first|(refine qj ( .bool false) ?_;simp (disch:=omega) only[go_sem])|(refine cA (c1 _) flk ?_;simp (disch:=omega) only[k2,go_sem])|exact wj|with_reducible apply aiA|exact clz|fail
 have k2:((24:Int)<x.col.length)=False:=xD;rw[dqf g2,Bool.false_or]at hR
 by_cases g3:36<x.sig.length
 ·have k3:((36:Int)<x.sig.length)=True:=xv;rw[hR,dqt g3,Bool.true_or];simp (disch:=omega) only[coC,qo,k1,qm,strs,go_sem]
  repeat' first|(refine qj ( .bool false) ?_;simp (disch:=omega) only[go_sem])|(refine cA (c1 _) flk ?_;simp (disch:=omega) only[k2,k3,go_sem])|exact wj|with_reducible apply aiA|exact clz|fail
 have k3:((36:Int)<x.sig.length)=False:=xD;rw[dqf g3,Bool.false_or]at hR;rw[hR];simp (disch:=omega) only[coC,qo,k1,qm,strs,go_sem]
 repeat' first|((first|refine cA (c1 _) ?_ ?_|refine cG (λe=>c2 _) ?_ ?_);exact flk;simp (disch:=omega) only[k2,k3,go_sem])|exact wj|with_reducible apply aiA|exact clz|fail
def guR(u:Un)(k:Nat):Bool:=decide (8<(u.rds.getD k default).src.length)||gwB (u.rds.getD k default).words 8
def guB(u:Un):Bool:=decide (6<u.rds.length)||jx (guR u) u.rds.length
def qeD(l:List Un):Bool:=jx (λi=>guB (l.getD i default)) l.length||decide (12<l.length)
structure UnB (l:List Un):Prop where
 n:l.length<=9223372036854775807
 rd: ∀i,(l.getD i default).rds.length<=9223372036854775807
 wd: ∀i j,((l.getD i default).rds.getD j default).words.length<=9223372036854775807
end RC
end
section
open Go Go.Proofs AF
def fJ:List Nat:= []
def qen:C:=
 (v6 [ON 2 (.nilo 0 1 9) []] (v6 [ON 3 (.nilo 1 1 9) []] ((v6 [MV 6 0,O1 7 .len 6,vU 8 0] (C.block 0 (v6 [BI 9 .lss 8 7] ((v8 9 0).seq ((C.block 1 (v6 [O2 10 (.idxA 7) 6 8,O1 11
 (.load (some 7)) 10,⟨some 5,none,.alloc 2 36 [.str [],i6 0,i6 0,i6 0,.bool false,.bool false,.str []],[]⟩,ST 7 5 11] (wc [MV 12 3,vT 13 0 5,LD 14 13,⟨some 15,none,.bslc 3 1 1 9
 [.str []] [(0,1)],[.t 14]⟩,O2 16 (.app 4 1 9 16) 12 15,MV 3 16]))).seq (wc [vV 17 .add 8 1,MV 8 17])))).loop)).seq (wa [MV 18 3,MV 2 18]))))
theorem qcD:qN Tryz.prog 37 19 5 [RV.tmp 2] qen:=fi Tryz.f37 [2,3,5,15,16] fJ []
def Le:C:=
 (v6 [O1 2 (.box 0 26) 0,vU 4 0] ((v6 [O1 5 (.load (some 4)) 2,O1 6 (.call 67 true) 5,vV 7 .neq 6 0] (v7 7 (wa [vU 4 1]))).seq ((v6 [O1 8 (.load (some 4)) 2,MV 9 1,O2 10 (.call
 69 true) 8 9,vV 11 .neq 10 0] (v7 11 (wa [vU 4 20]))).seq (wa [vU 4 0]))))
theorem Xh:qN Tryz.prog 75 12 1 [RV.tmp 4] Le:=fi Tryz.f75 [2] fJ []
def HL:C:=
 (v6 [ON 4 (.nilo 0 1 9) []] (v6 [ON 5 (.nilo 1 1 9) []] ((v6 [MV 8 0,O1 9 .len 8,vU 10 0] (C.block 0 (v6 [BI 11 .lss 10 9] ((v8 11 0).seq ((C.block 1 (v6 [O2 12 (.idxA 7) 8
 10,O1 13 (.load (some 7)) 12,⟨some 7,none,.alloc 2 36 [.str [],i6 0,i6 0,i6 0,.bool false,.bool false,.str []],[]⟩,ST 7 7 13] (v6 [vT 14 2 7,LD 15 14,MV 16 1,BI 17 .eql 15 16]
 (v7 17 (wc [MV 18 5,vT 19 0 7,LD 20 19,⟨some 21,none,.bslc 3 1 1 9 [.str []] [(0,1)],[.t 20]⟩,O2 22 (.app 4 1 9 16) 18 21,MV 5 22]))))).seq (wc [vV 23 .add 10 1,MV 10
 23])))).loop)).seq (wa [MV 24 5,MV 4 24]))))
theorem LX:qN Tryz.prog 101 25 5 [RV.tmp 4] HL:=fi Tryz.f101 [4,5,7,21,22] fJ []
def qeo:C:=
 (v6 [O1 4 (.box 0 26) 0,ON 8 (.nilo 1 1 9) [],vU 9 0] ((v6 [O1 11 (.load (some 4)) 4,MV 12 1,O2 13 (.call 75 true) 11 12,MV 10 13] (v6 [MV 14 10,vV 15 .neq 14 0] (v7 15 (wa [MV
 16 10,ON 8 (.nilo 1 1 9) [],MV 9 16])))).seq ((v6 [MV 17 3,vV 18 .lss 17 0,MV 19 18,vY 20 19 3,vY 21 19 1,vW 22 19 .len 21,vX 23 19 (.bin .geq) 20 22,PT 24 19 23] (v7 24 (wa
 [ON 8 (.nilo 1 1 9) [],vU 9 20]))).seq (wa [MV 25 2,MV 26 3,O2 27 (.call 101 true) 25 26,MV 8 27,vU 9 0]))))
theorem qcE:qN Tryz.prog 52 28 2 [RV.tmp 8,RV.tmp 9] qeo:=fi Tryz.f52 [4,8] fJ []
end
section
open Go Go.Proofs AF HY LN
namespace RC
def Dv(L:List (List Str)):AV:= .sl L.length λi=> [strs (L.getD i [])]
def CQ(L:List Bool):AV:= .sl L.length λi=> [.bool (L.getD i false)]
theorem flag_clsV(L:List (List Str)):(Dv L).flag=true:=rfl
theorem strip_clsV(L:List (List Str)):(Dv L).strip=Dv L:=rfl
theorem flag_bolV(L:List Bool):(CQ L).flag=true:=rfl
theorem strip_bolV(L:List Bool):(CQ L).strip=CQ L:=rfl
section
variable {fz : Nat -> Bool} {h : w6} {n : Nat}
theorem rei_clsV(L:List (List Str)):rei fz h (n+1) (Dv L)=Dv L:=rfl
theorem rei_bolV(L:List Bool):rei fz h (n+1) (CQ L)=CQ L:=rfl
theorem frz_clsV(L:List (List Str)):frz fz h (n+1) (Dv L)=Dv L:=rfl
theorem frz_bolV(L:List Bool):frz fz h (n+1) (CQ L)=CQ L:=rfl
end
attribute [go_sem] flag_clsV strip_clsV flag_bolV strip_bolV rei_clsV rei_bolV frz_clsV frz_bolV
structure ApB (a:Ap):Prop where
 x:CoB a.x
 l:UnB a.l
 c:a.cls.length<=9223372036854775807
 cw: ∀i,(a.cls.getD i []).length<=9223372036854775807
 b:a.b.length<=9223372036854775807
 g:a.gs.length<=9223372036854775807
 y:a.lay.length<=9223372036854775807
 p:a.pos.length<=9223372036854775807
theorem jp{α:Type}{d:α}(L:List α)(P:α->Prop)(hd:P d)(h: ∀i,i<L.length->P (L.getD i d)): ∀i,P (L.getD i d):=by
 intro i
 by_cases hi:i<L.length
 ·exact h i hi
 ·rw[gdqA,List.getElem?_eq_none om];exact hd
theorem iT{x:Co}(h:BE x=false):yx x∧x.col.length<=24∧x.sig.length<=36:=by
 unfold BE at h;rw[Bool.or_eq_false_iff,Bool.or_eq_false_iff,Bool.or_eq_false_iff,Bool.or_eq_false_iff,qr,decide_eq_false_iff_not,decide_eq_false_iff_not]at h;obtain⟨h1,h2,h3,h4,h5⟩:=h;unfold gtB at h2;rw[Bool.or_eq_false_iff,qr,Bool.or_eq_false_iff,Bool.or_eq_false_iff,decide_eq_false_iff_not,decide_eq_false_iff_not]at h2;obtain⟨t1,t2,t3,t4⟩:=h2;unfold gnB at h5;rw[Bool.or_eq_false_iff,qr,decide_eq_false_iff_not]at h5;obtain⟨n1,n2⟩:=h5;have hrow: ∀i,i<x.tok.length->(x.tok.getD i []).length<=6∧ ∀j,j<(x.tok.getD i []).length->aM ((x.tok.getD i []).getD j default)=false:=λi hi=>by
  have:=t1 i hi
  unfold dC at this;rw[Bool.or_eq_false_iff,Bool.or_eq_false_iff,decide_eq_false_iff_not,qr]at this;exact⟨om,this.2.2⟩
 have hd0:AP (default:Tk):=⟨by decide,by decide,by decide,by decide⟩
 refine⟨⟨om,om,?_,om,?_,?_,om,?_⟩,om,om⟩
 ·exact jp x.sig (λs=>s.length<=1000000000) (by decide) λi hi=>by
   have:=of_decide_eq_false (n1 i hi)
   omega
 ·exact jp x.tok (λs=>s.length<=1000000000) (by decide) λi hi=>by have:=(hrow i hi).1;omega
 ·exact jp x.tok (λs=> ∀j,AP (s.getD j default)) (λj=>by simpa using hd0) λi hi=>jp _ AP hd0 λj hj=>by
   have:=(hrow i hi).2 j hj
   unfold aM at this;simp only[Bool.or_eq_false_iff,decide_eq_false_iff_not]at this;exact⟨om,om,om,om⟩
 ·exact jp x.col (λs=>s.length<=1000000000) (by decide) λi hi=>by
   have:=of_decide_eq_false (h1 i hi)
   omega
theorem BF{l:List Un}(h:qeD l=false):bo l∧l.length<=12:=by
 unfold qeD at h;rw[Bool.or_eq_false_iff,qr,decide_eq_false_iff_not]at h;obtain⟨h1,h2⟩:=h;have hu: ∀i,i<l.length->(l.getD i default).rds.length<=6∧ ∀j,j<(l.getD i default).rds.length->((l.getD i default).rds.getD j default).src.length<=8∧((l.getD i default).rds.getD j default).words.length<=8:=λi hi=>by
  have:=h1 i hi
  unfold guB at this;rw[Bool.or_eq_false_iff,decide_eq_false_iff_not,qr]at this;refine⟨om,λj hj=> ?_⟩;have h3:=this.2 j hj;unfold guR at h3;rw[Bool.or_eq_false_iff,decide_eq_false_iff_not]at h3
  have:=(OF h3.2).1
  exact⟨om,om⟩
 refine⟨⟨om,?_,?_,?_⟩,om⟩
 ·exact jp l (λu=>u.rds.length<=1000000000) (by decide) λi hi=>by have:=(hu i hi).1;omega
 ·exact jp l (λu=> ∀j,(u.rds.getD j default).src.length<=1000000000) (λj=>by simp[show (default:Un).rds= []from rfl,show (default:Rd).src= []from rfl]) λi hi=>jp _ (λr:Rd=>r.src.length<=1000000000) (by decide) λj hj=>by have:=(hu i hi).2 j hj;omega
 ·exact jp l (λu=> ∀j,(u.rds.getD j default).words.length<=1000000000) (λj=>by simp[show (default:Un).rds= []from rfl,show (default:Rd).words= []from rfl]) λi hi=>jp _ (λr:Rd=>r.words.length<=1000000000) (by decide) λj hj=>by have:=(hu i hi).2 j hj;omega
structure qgy (a:Ap):Prop where
 co:yx a.x
 un:bo a.l
 l12:a.l.length<=12
 b14:a.b.length<=14
 bt: ∀i,(a.b.getD i default).text.length<=30
 y18:a.lay.length<=18
 yl: ∀i,(a.lay.getD i []).length<=40
 p20:a.pos.length<=20
 c12:a.cls.length<=12
 cw: ∀i,(a.cls.getD i []).length<=8
 g42:qft a.x.sig a.gs=false
end RC
end
section
namespace AF
open Go
theorem Wk.moveCell{t:w7}{h:w6}{i j a w v:Nat}{ty ty':TypeId}{ds cs:w7}{sz off len:Nat}
  (hi:qv i h=some (.mem w ty' ds)) (ha:ds[a]? =some (.osl j v sz off len)) (hj:qv j h=some (.mem v ty cs)) (hne:i≠j):
  Wk t h t (qu i (qu j h (.emp (v+1))) (.mem w ty' (ds.set a (.osl h.length 1 sz off len)))++ [.mem 1 ty cs]):=by
 intro N W σ A H;obtain⟨p1,p2⟩:=H.hr.pushN 1;have hjl:=zA hj;have hil:=zA hi;have hj':qv j (h++ [.emp 0])=some (.mem v ty cs):=by rw[zQ hjl];exact hj
 have hg:qv h.length (h++ [AObj.emp 0])=some (.emp 0):=by unfold qv;rw[List.getElem?_append_right (nlr _),Nat.sub_self];rfl
 have hk':qK (h++ [.emp 0]) h.length=true:=by unfold qK;rw[hg]
 obtain⟨σ2,q1,q2,q3⟩:=HR.move (h:=h++ [.emp 0]) p1 hj' hk' om;have e0:qu h.length (qu j (h++ [.emp 0]) (.emp (v+1))) (.mem (qn (qv h.length (h++ [.emp 0]))+1) ty cs)=qu j h (.emp (v+1))++ [.mem 1 ty cs]:=by
  rw[hg];unfold qu;rw[List.set_append_left _ _ hjl,List.set_append_right _ _ (by rw[List.length_set];exact nlr _),List.length_set,Nat.sub_self];rfl
 rw[e0]at q1;rw[hg]at q3;have ee:=p2.trans q2;have hiq:qv i (qu j h (.emp (v+1))++ [.mem 1 ty cs])=some (.mem w ty' ds):=by
  rw[zQ (by rw[qQ];exact hil),qX (by exact hne)];exact hi
 obtain⟨o,b,arr,o1,o2,o3,o4,o5,o6,o7,o8,o9⟩:=jQ q1 (qL hiq);obtain⟨o',b',arr',r1,r2,r3,r4,r5,r6,r7,r8,r9⟩:=jQ H.hr (qL hi);obtain⟨o2',s1,s2,s3⟩:=ee.obj i o' r1;rw[o1]at s1;cases s1;have eo:o=o':=s3 (o2.trans r2.symm);subst eo;rw[o4]at r4;cases r4;have earr:arr=arr':=by
  obtain⟨T,fz,_,x1⟩:=o5;obtain⟨T',fz',_,x2⟩:=r5;rw[x1]at x2;cases x2;rfl
 subst earr;have q:=q1.recell (cs':=ds.set a (.osl h.length 1 sz off len)) hiq o1 o4 o5 o6 (by simpa using o7) (λn x hn hx=>o8 n x (by simpa using hn) hx) (λn d x hd hx=>by
  rw[List.getElem?_set]at hd;split at hd
  ·rename_i e;subst e;split at hd
   ·cases hd;exact q3 sz off len x ((r9 a _ x ha hx).ext p2)
   ·cases hd
  ·exact o9 n d x hd hx)
 have e1:qu i (qu j h (.emp (v+1))++ [.mem 1 ty cs]) (.mem w ty' (ds.set a (.osl h.length 1 sz off len)))=qu i (qu j h (.emp (v+1))) (.mem w ty' (ds.set a (.osl h.length 1 sz off len)))++ [.mem 1 ty cs]:=by
  unfold qu;rw[List.set_append_left _ _ (by rw[List.length_set];exact hil)]
 rw[e1]at q;exact⟨σ2,⟨q,H.sz,λn d x hd hx=>(H.tm n d x hd hx).ext ee,xp ee H.df⟩,ee⟩
end AF
end
section
open Go Go.Proofs AF HY LN
namespace RC
def xB(base:Nat)(L:List Rd):w7:=(List.range L.length).flatMap λj=> [strs (L.getD j default).words,.osl (base+j) (L.getD j default).src.length 1 0 (L.getD j default).src.length]
def pq(L:List Rd):w6:=L.map λr=> .mem r.src.length 3 (qT r.src)
theorem Yw(L:List Rd):(pq L).length=L.length:=by simp[pq]
theorem Jz{L:List Rd}{j:Nat}(hj:j<L.length):(pq L)[j]? =some (.mem (L.getD j default).src.length 3 (qT (L.getD j default).src)):=by
 unfold pq;rw[List.getElem?_map,zG hj,gdqA,zG hj];rfl
theorem Yv(L M:List Rd):pq (L++M)=pq L++pq M:=by simp[pq]
theorem Yx{L:List Rd}{j:Nat}(r:Rd):(pq L).set j (.mem r.src.length 3 (qT r.src))=pq (L.set j r):=by
 unfold pq;rw[List.map_set]
theorem d6{α:Type}(f g:Nat->List α): ∀n,(∀i,i<n->f i=g i)->(List.range n).flatMap f=(List.range n).flatMap g:=λn h=>by
 rw[List.flatMap_def,List.flatMap_def];congr 1;exact List.map_congr_left λi hi=>h i (List.mem_range.1 hi)
theorem Jy(base:Nat)(L:List Rd)(r:Rd):xB base (L++ [r])=xB base L++ [strs r.words,.osl (base+L.length) r.src.length 1 0 r.src.length]:=by
 unfold xB;rw[lap,List.length_singleton,List.range_succ,List.flatMap_append];congr 1
 ·refine d6 _ _ _ λi hi=> ?_
  rw[gdqA,List.getElem?_append_left hi,<-gdqA]
 ·simp
theorem bN(base:Nat)(L:List Rd):(xB base L).length=2*L.length:=by
 unfold xB;generalize L.length=n;generalize hf:(λj=> [strs (L.getD j default).words,AV.osl (base+j) (L.getD j default).src.length 1 0 (L.getD j default).src.length])=f;have h2: ∀j,(f j).length=2:=λj=>by rw[<-hf];rfl
 induction n with
 |zero=>rfl
 |succ n ih=>rw[List.range_succ,List.flatMap_append,lap,ih];simp[h2];omega
theorem ed(base:Nat)(L:List Rd){k:Nat}(hk:k<L.length): ∃A B,A.length=2*k∧xB base L=A++ [strs (L.getD k default).words,.osl (base+k) (L.getD k default).src.length 1 0 (L.getD k default).src.length]++B∧
  ∀s,xB base (L.set k ⟨(L.getD k default).words,s⟩)=A++ [strs (L.getD k default).words,.osl (base+k) s.length 1 0 s.length]++B:=by
 have e:List.range L.length=List.range k++k::(List.range (L.length-(k+1))).map (λi=>k+1+i):=by
  conv=>lhs;rw[show L.length=k+1+(L.length-(k+1)) by omega,List.range_add,List.range_succ,List.append_assoc]
  rfl
 refine⟨(List.range k).flatMap λj=> [strs (L.getD j default).words,.osl (base+j) (L.getD j default).src.length 1 0 (L.getD j default).src.length],((List.range (L.length-(k+1))).map (λi=>k+1+i)).flatMap λj=> [strs (L.getD j default).words,.osl (base+j) (L.getD j default).src.length 1 0 (L.getD j default).src.length],?_,?_,λs=> ?_⟩
 ·have h2: ∀(f:Nat->w7),(∀j,(f j).length=2)-> ∀n,((List.range n).flatMap f).length=2*n:=λf hf n=>by
   induction n with
   |zero=>rfl
   |succ n ih=>rw[List.range_succ,List.flatMap_append,lap,ih];simp[hf];omega
  exact h2 _ (λ_=>rfl) _
 ·unfold xB;rw[e,List.flatMap_append,List.flatMap_cons,List.append_assoc]
 ·unfold xB;rw[List.length_set,e,List.flatMap_append,List.flatMap_cons,List.append_assoc];have g: ∀j,(L.set k ⟨(L.getD k default).words,s⟩).getD j default=if j=k then ⟨(L.getD k default).words,s⟩ else L.getD j default:=λj=>kS hk
  congr 1
  ·refine d6 _ _ _ λi hi=> ?_
   rw[g,ine om]
  ·rw[g,ipo rfl];show _::_::_=_::_::_;congr 2;rw[List.flatMap_def,List.flatMap_def,List.map_map,List.map_map];refine congrArg List.flatten (List.map_congr_left λi _=> ?_);simp only[Function.comp];rw[g,ine om]
theorem Yu{base:Nat}{L:List Rd}{i:Nat}(hi:i<L.length):((xB base L).drop (i*2)).take 2= [strs (L.getD i default).words,.osl (base+i) (L.getD i default).src.length 1 0 (L.getD i default).src.length]:=by
 obtain⟨A,B,h1,h2,_⟩:=ed base L hi;rw[h2,show i*2=A.length by omega,List.append_assoc,List.drop_append,Nat.sub_self];simp
theorem XI{L:List Int}{n:Nat}{g:AV->AV}(hg: ∀x,g (.int .i64 x)= .int .i64 x)(hn:n=L.length):ILe (mo (some (.mem n 3 (qT L))) n 1 0 n g) (qz L):=by
 subst hn;rw[slOf_mem,ipo ⟨rfl,by rw[jy];omega⟩];refine ILe.sl_eq λi hi=> ?_
 simp only[Nat.zero_add,Nat.mul_one];have e:((qT L).drop i).take 1= [.int .i64 (L.getD i 0)]:=by
  rw[List.drop_eq_getElem_cons (by rw[jy];exact hi),List.take_succ_cons,List.take_zero];have h:=Zy (C:=L) hi;rw[zG (by rw[jy];exact hi)]at h;rw[Option.some.inj h]
 rw[e,List.map_cons,List.map_nil,hg]
theorem JC{base v:Nat}{L:List Rd}{n:Nat}{fz:Nat->Bool}{H:w6}{d:Nat}(hn:n=L.length)(hf: ∀j,j<L.length->fz (base+j)=true)(hj: ∀j,j<L.length->qv (base+j) H=some (.mem (L.getD j default).src.length 3 (qT (L.getD j default).src))):
  VLe (mo (some (zE v 97 (xB base L))) v 2 0 n (rei fz H (d+2))) (j6 L):=by
 subst hn
 by_cases h0:L= []
 ·subst h0;show VLe (mo (some (.emp v)) v 2 0 0 _) _;rw[slOf_emp,ipo rfl];exact qY
 ·have e0:zE v 97 (xB base L)= .mem v 97 (xB base L):=w8 (λe=>h0 (by
   have:=bN base L
   rw[e]at this
   exact List.eq_nil_of_length_eq_zero (by simp at this;omega)))
  rw[e0,slOf_mem,ipo ⟨rfl,by rw[bN];omega⟩];refine VLe.sl (λi hi=> ?_);simp only[Nat.zero_add];rw[Yu hi];refine⟨ILe.refl _,?_,trivial⟩;show ILe (rei fz H (d+1+1) (.osl (base+i) _ 1 0 _)) _;rw[rei_osl,ipo (hf i hi),hj i hi];exact XI (λ_=>rfl) rfl
theorem DD{A B:w7}{a b c:AV}{n:Nat}(hn:n=A.length+1):List.take n (A++ [a,b]++B)++ [c]++List.drop (n+1) (A++ [a,b]++B)=A++ [a,c]++B:=by
 have e1:A++ [a,b]++B=(A++ [a])++(b::B):=by simp
 have e2:A++ [a,b]++B=(A++ [a]++ [b])++B:=by simp
 have h1:List.take n (A++ [a,b]++B)=A++ [a]:=by rw[e1];exact List.take_left' (by rw[lap,List.length_singleton,hn])
 have h2:List.drop (n+1) (A++ [a,b]++B)=B:=by rw[e2];exact List.drop_left' (by rw[lap,lap,List.length_singleton,List.length_singleton,hn])
 rw[h1,h2];simp
theorem mu{hi:Int}: ∀ {S:List Int} {lo:Int},S.Pairwise (· < ·)->(∀x∈S,lo<=x∧x<hi)->S.length<=(hi-lo).toNat:=by
 intro S
 induction S with
 |nil=>intro lo _ _;exact nzl _
 |cons a S ih=>
  intro lo h1 h2;obtain⟨p1,p2⟩:=List.pairwise_cons.1 h1;have ha:=h2 a List.mem_cons_self
  have:=ih (lo:=a+1) p2 λx hx=>⟨by have:=p1 x hx;omega,(h2 x (List.mem_cons_of_mem _ hx)).2⟩
  rw[lco];omega
theorem qc8{h M:w6}{a0 a1 a2 a3 a4 a5 a6 a7 a8:AObj}:(h++a0::a1::a2::a3::a4::a5::a6::a7::a8::M).length=h.length+9+M.length:=by
 simp only[lap,lco];omega
theorem iV{h M:w6}{a0 a1 a2 a3 a4 a5 a6 a7 a8:AObj}{j:Nat}:qv (h.length+9+j) (h++a0::a1::a2::a3::a4::a5::a6::a7::a8::M)=M[j]? :=by
 unfold qv;rw[List.getElem?_append_right om,show h.length+9+j-h.length=j+9 by omega];rfl
theorem P6{h M:w6}{a0 a1 a2 a3 a4 a5 a6 a7 a8 o:AObj}{j:Nat}:qu (h.length+9+j) (h++a0::a1::a2::a3::a4::a5::a6::a7::a8::M) o=h++a0::a1::a2::a3::a4::a5::a6::a7::a8::M.set j o:=by
 unfold qu;rw[List.set_append_right _ _ om,show h.length+9+j-h.length=j+9 by omega];rfl
theorem qeK(x:Co)(f t:Nat)(h:w6)(ho:CoOk x)(ht:t<=x.col.length)(hn:x.col.length<=1000000000):ACalls Tryz.prog 90 [.agg (coC x),.int .i64 (f:Int),.int .i64 (t:Int)] h (j6 (dG x f t)) h:=by
 have zl: ∀g,valL g .len [strs x.sig]= .int .i64 x.sig.length:=λ_=>rfl
 have zo: ∀g,okL g .len [strs x.sig]=True:=λ_=>eqt trivial
 refine acO qcP ?_;simp (disch:=omega) only[qew,coC,zl,zo,go_sem];refine qp (T:=λi:Nat×Nat×AObj×AObj×AObj×AObj=>zw 48 [(1,.int .i64 (f:Int)),(2,.int .i64 (t:Int)),(3,.op h.length 1 0),(7,.osl (h.length+2) i.2.1 2 0 (aX x f (t-f) i.1).length),(13,.int .i64 x.sig.length),(14,.int .i64 i.1)])
  (H:=λi=>h++ .mem 1 26 (coC x):: .emp 1::zE i.2.1 97 (xB (h.length+9) (aX x f (t-f) i.1))::i.2.2.1::i.2.2.2.1::i.2.2.2.2.1:: .emp 0::i.2.2.2.2.2:: .emp 0::pq (aX x f (t-f) i.1))
  (inv:=λi=>i.1<=x.sig.length∧qK [i.2.2.1] 0=true∧qK [i.2.2.2.1] 0=true∧qK [i.2.2.2.2.1] 0=true∧qK [i.2.2.2.2.2] 0=true) (m:=λi=>x.sig.length-i.1) (0,1,.emp 0,.emp 0,.emp 0,.emp 0) ⟨nzl _,rfl,rfl,rfl,rfl⟩ (Wk.temps ?_) ?_
 ·(simp only[aX,lnl,go_sem,qg,qc,qa,qf];try exact wr)
 rintro⟨s,v,O3,O4,O5,O7⟩ ⟨i1,j3,j4,j5,j7⟩ K hK;simp only at i1 j3 j4 j5 j7 hK;have j3': ∀m,qK (O3::m) 0=true:=λ_=>j3
 have j4': ∀m,qK (O4::m) 0=true:=λ_=>j4
 have j5': ∀m,qK (O5::m) 0=true:=λ_=>j5
 have j7': ∀m,qK (O7::m) 0=true:=λ_=>j7
 have hst:aX x f (t-f) (s+1)=mg (aX x f (t-f) s) (rdG x s f (t-f)) s:=rfl;have hln:=pr x f (t-f) s;have hsg:=ho.sg;obtain⟨L,hL⟩:=wD (aX x f (t-f) s)
 rw[<-hL]at hst hln;have eL:=hL.symm
 by_cases hs:s<x.sig.length
 ·have k1:((s:Int)<x.sig.length)=True:=xv;have c21:=λh=>rdP x f t s h ho ht hs hn
  obtain⟨w,hw⟩:=wD (rdG x s f (t-f))
  rw[<-hw]at hst;simp only[<-hw]at c21;unfold coC at c21;simp (disch:=omega) only[coC,k1,eL,go_sem]
  repeat' first|(refine cA (c21 _) flk ?_;simp (disch:=omega) only[j3',j4',go_sem])
  have hwl:w.length<=1000000000:=by have:=fW x s f (t-f);rw[<-hw]at this;omega
  have hRd:=fY x f (t-f) s;rw[eL]at hRd;have hwL: ∀j,(L.getD j default).words.length<=1000000000:=jp L (λr=>r.words.length<=1000000000) (by decide) λj hj=>by
   have h1:=hRd.nn j hj;obtain⟨y,ys,e⟩:=List.exists_cons_of_ne_nil h1;have h2:=hRd.wd j hj y (by rw[e];exact List.mem_cons_self);rw[h2]
   have:=fW x y.toNat f (t-f)
   omega
  have hob:= @Jz L;refine cA (r:= .int .i64 (pp L w)) ?c (by exact flk) ?_
  case c=>
   refine ACalls.borrow ((fdP L ⟨w,[(s:Int)]⟩ [] om hwl hwL).le ?v (qi)) rfl;simp only[List.map_cons,List.map_nil,go_sem];refine⟨JC rfl (λ_ _=>rfl) (λj hj=>by rw[iV];exact hob hj),VLe.agg ⟨qi,VLe.sl_eq rfl (λi hi=> ?_),trivial⟩,qi,trivial⟩;obtain rfl:i=0:=by simpa using hi
   rfl
  have eKl:=bN (h.length+9) L;rcases aA L w with⟨k,b1,b2,b3⟩|⟨b1,b2⟩
  ·have q1:(pp L w<0)=False:=xD;have hst2:aX x f (t-f) (s+1)=L.set k ⟨w,(L.getD k default).src++ [(s:Int)]⟩:=by
    rw[hst];unfold mg;rw[b3,ine om,itn]
   obtain⟨A,B,a1,a2,a3⟩:=ed (h.length+9) L b1;have a3:=a3 ((L.getD k default).src++ [(s:Int)]);have hne:(xB (h.length+9) L≠ [])=True:=eqt λe=>by rw[e]at eKl;simp at eKl;omega
   have hob:=hob b1;rw[b2]at a2 a3;have hos:= @Yx L k ⟨w,(L.getD k default).src++ [(s:Int)]⟩;rw[<-hst2]at hos a3;dsimp only at hos;obtain⟨S,hS⟩:=wD ((L.getD k default).src)
   rw[<-hS]at a2 a3 hob hos;rw[lap,List.length_singleton]at a3 hos;rw[i7,show qT [(s:Int)]= [AV.int .i64 (s:Int)]from rfl]at hos;have gg:(xB (h.length+9) L)[k*2+1]? =some (.osl (h.length+9+k) S.length 1 0 S.length):=by
    rw[a2,List.append_assoc,List.getElem?_append_right om,show k*2+1-A.length=1 by omega];rfl
   have gs:List.take (k*2+1) (xB (h.length+9) L)++ [.osl (h.length+9+k) (S.length+1) 1 0 (S.length+1)]++List.drop (k*2+1+1) (xB (h.length+9) L)=xB (h.length+9) (aX x f (t-f) (s+1)):=by
    rw[a2,a3];exact DD om
   have eI:=jy S;have hSl:S.length<=1000:=by
    have:=(fZ x f (t-f) s).src (L.getD k default) (by rw[eL,gdqA,zG b1];exact List.getElem_mem b1)
    have:=mu (hi:=(s:Int)) (lo:=0) this.1 this.2
    rw[<-hS]at this;omega
   have eown:zE v 97 (xB (h.length+9) L)= .mem v 97 (xB (h.length+9) L):=w8 (of_eq_true hne);have el2:(aX x f (t-f) (s+1)).length=L.length:=by rw[hst2,List.length_set]
   have eown2:zE v 97 (xB (h.length+9) (aX x f (t-f) (s+1)))= .mem v 97 (xB (h.length+9) (aX x f (t-f) (s+1))):=w8 λe=>by
    have:=bN (h.length+9) (aX x f (t-f) (s+1))
    rw[e,el2]at this;simp at this;omega
   have eTi:List.take S.length (qT S)=qT S:=ltl om;have kL:((k:Int)<L.length)=True:=xv;have k0:(0<=(k:Int))=True:=xv;rw[eown];simp (disch:=omega) only[b3,j7',gg,eKl,kL,k0,Option.getD_some,Option.isSome_some,iV,P6,hob,eTi,Nat.mul_one,itn,go_sem]
   repeat' first|(with_reducible first|intro _|apply aiA)|exact clz|fail
   all_goals try (simp only[jI,jb,iV,hob,xP,ql,if_true,Option.getD_some,eI,beq_self_eq_true];done)
   all_goals try (simp only[bne_iff_ne];omega)
   all_goals try (simp only[jb,iV,hob,ql,if_true,Option.getD_some,eI];exact nlr _)
   rw[gs];have eD:(AV.int .i64 (s:Int)::List.drop 1 (zU [i6 0] 1))= [AV.int .i64 (s:Int)]:=rfl;simp only[eD];rw[hos];refine hK _ _ (s+1,v,.mem (qn (some O3)+1) 3 [.int .i64 (s:Int)],.mem (qn (some O4)+1) 97 [strs w,.osl (h.length+3) (qn (some O3)+1) 1 0 1],O5,.mem (qn (some O7)+1) 3 [.int .i64 (s:Int)]) ⟨hs,rfl,rfl,j5,rfl⟩ (by simp only;omega) ?_;simp only[eown2,el2,coC];refine Wk.temps ?_
   (simp only[go_sem,qg,qc,qa,qf];try exact wr)
  ·have q1:(pp L w<0)=True:=eqt b2;have hst2:aX x f (t-f) (s+1)=L++ [⟨w,[(s:Int)]⟩]:=by
    rw[hst];unfold mg;rw[ipo b2]
   have eTk:List.take (L.length*2) (xB (h.length+9) L)=xB (h.length+9) L:=ltl om;simp (disch:=omega) only[q1,j5',eTk,eKl,Nat.mul_one,go_sem]
   repeat' first|with_reducible apply aiA|exact clz|fail
   have el2:(aX x f (t-f) (s+1)).length=L.length+1:=by rw[hst2,lap];rfl
   have eo:pq (aX x f (t-f) (s+1))=pq L++ [.mem 1 3 [.int .i64 (s:Int)]]:=by rw[hst2,Yv];rfl
   have ek:xB (h.length+9) (aX x f (t-f) (s+1))=xB (h.length+9) L++ [strs w,.osl (h.length+9+L.length) 1 1 0 1]:=by rw[hst2,Jy];rfl
   have eown:zE (v+1) 97 (xB (h.length+9) L++ [strs w,.osl (h.length+3) (qn (some O3)+1) 1 0 1])= .mem (v+1) 97 (xB (h.length+9) L++ [strs w,.osl (h.length+3) (qn (some O3)+1) 1 0 1]):=w8 (by simp);have eown2:zE (v+1) 97 (xB (h.length+9) L++ [strs w,.osl (h.length+9+L.length) 1 1 0 1])= .mem (v+1) 97 (xB (h.length+9) L++ [strs w,.osl (h.length+9+L.length) 1 1 0 1]):=w8 (by simp);have eset:(xB (h.length+9) L++ [strs w,AV.osl (h.length+3) (qn (some O3)+1) 1 0 1]).set (L.length*2+1) (.osl (h.length+9+L.length) 1 1 0 1)=xB (h.length+9) L++ [strs w,.osl (h.length+9+L.length) 1 1 0 1]:=by
    rw[List.set_append_right _ _ om,eKl,show L.length*2+1-2*L.length=1 by omega];rfl
   rw[eown];refine hK _ _ (s+1,v+1,.emp (qn (some O3)+1+1),.mem (qn (some O4)+1) 97 [strs w,.osl (h.length+3) (qn (some O3)+1) 1 0 1],.mem (qn (some O5)+1) 97 [strs w,.osl (h.length+3) (qn (some O3)+1) 1 0 1],O7) ⟨hs,rfl,rfl,rfl,j7⟩ (by simp only;omega)
    (Wk.trans (Wk.moveCell (i:=h.length+2) (j:=h.length+3) (a:=L.length*2+1) (w:=v+1) (v:=qn (some O3)+1) (ty:=3) (ty':=97) (ds:=xB (h.length+9) L++ [strs w,.osl (h.length+3) (qn (some O3)+1) 1 0 1]) (cs:= [.int .i64 (s:Int)]) (sz:=1) (off:=0) (len:=1) ?m1 ?m2 ?m3 om) ?m4)
   case m1=>simp only[go_sem]
   case m2=>
    rw[List.getElem?_append_right om,show L.length*2+1-(xB (h.length+9) L).length=1 by omega];rfl
   case m3=>simp only[go_sem];rfl
   case m4=>
    have eD:(AV.int .i64 (s:Int)::List.drop 1 (zU [i6 0] 1))= [AV.int .i64 (s:Int)]:=rfl;have eD2: ∀c:AV,(strs w::c::List.drop 2 (zU [AV.nl,AV.nl] 1))= [strs w,c]:=λ_=>rfl
    simp only[eo,ek,eown2,el2,coC,eD,eD2,qc8,Yw,go_sem,eset,List.append_assoc,lca];refine Wk.temps ?_
    (simp only[go_sem,qg,qc,qa,qf];try exact wr)
 ·have k1:((s:Int)<x.sig.length)=False:=xD;obtain rfl:s=x.sig.length:=by omega
  have hF:dG x f t=L:=by rw[hL];rfl
  rw[hF];simp (disch:=omega) only[k1,eL,go_sem]
  repeat' first|(apply qb;exact rvk;simp only[go_sem])
  exact JC rfl (λj _=>dqt om) (λj hj=>by rw[iV];exact Jz hj)
theorem qfc(l:List Un)(f t:Nat)(k v k2 v2:Nat)(h:w6)(hk:qv k h=some (.mem v 3 [.int .i64 (f:Int)]))(hk2:qv k2 h=some (.mem v2 3 [.int .i64 (t:Int)]))(hn:l.length<=1000000000):
  ACalls Tryz.prog 33 [zf l,.fn (.func 178) [] [.op k v 0,.op k2 v2 0]] h (.bool (rnB l (f,t))) h:=by
 have hc:=qL hk;have hc2:=qL hk2;unfold zf rnB;refine A9 N3 ⟨rfl,rfl⟩ ⟨rfl,rfl⟩ (cC Ed l.length (λj=>unC (l.getD j default)) (λj=> .agg (unC (l.getD j default))) _ [] [.op k v 0,.op k2 v2 0] _ h (λi _=>⟨rfl,by simp[j0,unC],rfl,rfl,rfl⟩) (λi _=> ?_) om);refine ACalls.borrow ?_ rfl;have e:([AV.agg (unC (l.getD i default))]++ [AV.op k v 0,AV.op k2 v2 0]).map (rei (λ_=>true) h 8)= [.agg (unC (l.getD i default)),.ip [.int .i64 (f:Int)],.ip [.int .i64 (t:Int)]]:=by
  simp only[lca,lna,List.map_cons,List.map_nil,rei_op,if_true,hc,hc2,ipOf_some,List.drop_zero,rei_agg];rfl
 rw[lna,e];exact qfW _ _ _ _
theorem V3(l:List Un)(i:Nat):beH l (i+1)=(l.getD i default).to:=by unfold beH;rw[ine om,Nat.add_sub_cancel]
theorem EK(u:Un)(n v:Nat)(ty:TypeId):lowO n (.mem v ty (unC u)):=by
 intro c hc;simp only[unC,List.mem_cons,List.not_mem_nil,or_false]at hc;rcases hc with rfl|rfl|rfl<;>rfl
theorem EJ(x:Co)(n v:Nat)(ty:TypeId):lowO n (.mem v ty (coC x)):=by
 intro c hc;simp only[coC,List.mem_cons,List.not_mem_nil,or_false]at hc;rcases hc with rfl|rfl|rfl|rfl<;>rfl
theorem JJ(x:Co): ∀a∈rnX x,a.length=2:=by
 intro a ha;unfold rnX at ha;obtain⟨_,_,rfl⟩:=List.mem_map.1 ha;rfl
theorem np(x:Co):(rnX x).length=(fa (cmB x) x.col.length).length:=by simp[rnX]
theorem JI{x:Co}{i:Nat}(hi:i<(rnX x).length):(rnX x)[i]= [.int .i64 (((fa (cmB x) x.col.length).getD i (0,0)).1:Int),.int .i64 (((fa (cmB x) x.col.length).getD i (0,0)).2:Int)]:=by
 have h2:i<(fa (cmB x) x.col.length).length:=by rw[<-np];exact hi
 simp only[rnX,List.getElem_map];rw[gdqA,zG h2];rfl
theorem JB(x:Co)(f d:Nat)(hd:d<=1000000000)(s:Nat)(hs:s<=1000000000):AO (aX x f d s):=by
 have hI:=fZ x f d s;have hH:=fY x f d s;have hl:=pr x f d s;refine⟨om,?_,?_⟩
 ·exact jp _ (λr:Rd=>r.src.length<=1000000000) (by decide) λj hj=>by
   have:=hI.src ((aX x f d s).getD j default) (by rw[gdqA,zG hj];exact List.getElem_mem hj)
   have:=mu (hi:=(s:Int)) (lo:=0) this.1 this.2
   omega
 ·exact jp _ (λr:Rd=>r.words.length<=1000000000) (by decide) λj hj=>by
   have h1:=hH.nn j hj;obtain⟨y,ys,e⟩:=List.exists_cons_of_ne_nil h1;have h2:=hH.wd j hj y (by rw[e];exact List.mem_cons_self);rw[h2]
   have:=fW x y.toNat f d
   omega
theorem qfX(x:Co)(l:List Un)(h:w6)(ho:CoOk x)(hn:x.col.length<=1000000000)(hu:bo l):ACalls Tryz.prog 127 [.agg (coC x),zf l] h (.bool (rgB x l)) h:=by
 have hsg:=ho.sg;have hl:=hu.n;obtain⟨R,hR⟩:=wD (rgB x l)
 rw[<-hR];unfold rgB at hR;refine acO L9 ?_;simp (disch:=omega) only[HT,coC,zf,go_sem]
 repeat' first|with_reducible apply aiA|exact clz|fail
 refine qp (T:=λi:Nat×AObj=>zw 63 [(2,.op h.length 1 0),(3,.op (h.length+1) 1 0),(4,.op (h.length+2) 1 0),(5,.int .i64 (beH l i.1)),(10,zf l),(11,.int .i64 l.length),(12,.int .i64 i.1)])
  (H:=λi=>h++ [.mem 1 26 (coC x),.mem 1 28 [zf l],.mem 1 4 [.bool false],i.2,.emp 0,.emp 0])
  (inv:=λi=>i.1<=l.length∧qK [i.2] 0=true∧(∀n,lowO n i.2)∧ ∀j,j<i.1->unB x (beH l j) (l.getD j default)=true) (m:=λi=>l.length-i.1) (0,.emp 0) ⟨nzl _,rfl,λ_=>trivial,λj hj=>absurd hj (nnz j)⟩ (Wk.temps ?_) ?_
 ·(simp only[zf,beH,go_sem,qg,qc,qa,qf];try exact wr)
 rintro⟨i,O⟩ ⟨i1,i2,il,i3⟩ K hK;simp only at i1 i2 il i3 hK;have i2': ∀m,qK (O::m) 0=true:=λ_=>i2
 by_cases hi:i<l.length
 ·have k1:((i:Int)<l.length)=True:=xv;have hno:unB x (beH l i) (l.getD i default)=false->R=false:=λhx=>by
   rw[hR];unfold wJ;rw[qS.2 ⟨i,hi,by rw[hx];rfl⟩];rfl
  have hS:unB x (beH l i) (l.getD i default)=true-> ∀j,j<i+1->unB x (beH l j) (l.getD j default)=true:=λhx j hj=>by
   by_cases e:j=i
   ·subst e;exact hx
   ·exact i3 j om
  have hbs:=V3 l i;have zrd:AO (l.getD i default).rds:=⟨hu.rd i,hu.sr i,hu.wd i⟩
  obtain⟨u,hux⟩:=wD (l.getD i default)
  have eu:=hux.symm;rw[eu]at hno hS hbs zrd;obtain⟨b,hb⟩:=wD (beH l i)
  have eb:=hb.symm;rw[eb]at hno hS;have hB:unB x b u= !(decide (u.frm<=b)||(decide (u.frm<0)||(decide (u.to<=u.frm)||(decide ((x.col.length:Int)<u.to)|| !decide (u.rds=dG x u.frm.toNat u.to.toNat))))):=rfl
  by_cases g1:u.frm<=b
  ·have q1:(u.frm<=b)=True:=eqt g1;rw[hno (by rw[hB,dqt g1];rfl)];simp (disch:=omega) only[zf,unC,coC,qo,j6,k1,eu,eb,i2',q1,go_sem]
   repeat' first|(refine qj ( j6 []) ?_;simp (disch:=omega) only[j6,go_sem])|exact wj|with_reducible apply aiA|exact clz|fail
  have q1:(u.frm<=b)=False:=eqf g1
  by_cases g2:u.frm<0
  ·have q2:(u.frm<0)=True:=eqt g2;rw[hno (by rw[hB,dqt g2];simp)];simp (disch:=omega) only[zf,unC,coC,qo,j6,k1,eu,eb,i2',q1,q2,go_sem]
   repeat' first|(refine qj ( j6 []) ?_;simp (disch:=omega) only[j6,go_sem])|exact wj|with_reducible apply aiA|exact clz|fail
  have q2:(u.frm<0)=False:=eqf g2
  by_cases g3:u.to<=u.frm
  ·have q3:(u.to<=u.frm)=True:=eqt g3;rw[hno (by rw[hB,dqt g3];simp)];simp (disch:=omega) only[zf,unC,coC,qo,j6,k1,eu,eb,i2',q1,q2,q3,go_sem]
   repeat' first|(refine qj ( j6 []) ?_;simp (disch:=omega) only[j6,go_sem])|exact wj|with_reducible apply aiA|exact clz|fail
  have q3:(u.to<=u.frm)=False:=eqf g3
  by_cases g4:(x.col.length:Int)<u.to
  ·have q4:((x.col.length:Int)<u.to)=True:=eqt g4;rw[hno (by rw[hB,dqt g4];simp)];simp (disch:=omega) only[zf,unC,coC,qo,j6,k1,eu,eb,i2',q1,q2,q3,q4,go_sem]
   repeat' first|(refine qj ( j6 []) ?_;simp (disch:=omega) only[j6,go_sem])|exact wj|with_reducible apply aiA|exact clz|fail
  have q4:((x.col.length:Int)<u.to)=False:=eqf g4;obtain⟨f,hf⟩: ∃f:Nat,u.frm=(f:Int):=⟨u.frm.toNat,om⟩
  obtain⟨t,ht⟩: ∃t:Nat,u.to=(t:Int):=⟨u.to.toNat,om⟩
  have c48:=λh=>qeK x f t h ho om hn
  have zF:AO (dG x f t):=JB x f (t-f) om x.sig.length om;have c49:=λh=>qf3 u.rds (dG x f t) h zrd zF
  have eft:dG x u.frm.toNat u.to.toNat=dG x f t:=by rw[hf,ht,itn,itn]
  rw[dqf g1,dqf g2,dqf g3,dqf g4,eft]at hB;obtain⟨F,hF⟩:=wD (dG x f t)
  rw[<-hF]at hB;simp only[<-hF]at c48 c49;obtain⟨c,hc⟩:=wD (decide (u.rds=F))
  rw[<-hc]at hB;simp only[<-hc]at c49;rw[hf]at q1 q2 q3;rw[ht]at q3 q4;unfold coC qo at c48;unfold j6 at c48 c49;cases c with
  |false=>
   rw[hno hB];simp (disch:=omega) only[zf,unC,coC,qo,j6,k1,eu,eb,i2',q1,q2,q3,q4,hf,ht,go_sem]
   repeat' first|((first|refine cG (λe=>c48 _) ?_ ?_|refine cG (λe=>c49 _) ?_ ?_);exact flk;simp (disch:=omega) only[go_sem])|exact wj|with_reducible apply aiA|exact clz|fail
  |true=>
   simp (disch:=omega) only[zf,unC,coC,qo,j6,k1,eu,eb,i2',q1,q2,q3,q4,hf,ht,go_sem]
   repeat' first|((first|refine cG (λe=>c48 _) ?_ ?_|refine cG (λe=>c49 _) ?_ ?_);exact flk;simp (disch:=omega) only[go_sem])|with_reducible apply aiA|exact clz|fail
   refine hK _ _ (i+1,.mem (qn (some O)+1) 64 (unC u)) ⟨hi,rfl,λn=>EK u n _ _,hS hB⟩ (by simp only;omega) ?_;simp only[hbs,ht,unC,hf];refine Wk.temps ?_
   (simp only[zf,go_sem,qg,qc,qa,qf];try exact wr)
 have k1:((i:Int)<l.length)=False:=xD;obtain rfl:i=l.length:=by omega
 have hun:wJ x l=true:=by
  unfold wJ;rw[qr.2 λj hj=>by rw[i3 j hj];rfl];rfl
 rw[hun,Bool.true_and]at hR;have hcv:=DJ hun;clear hK;have c56:=λh=>qeL x h
 unfold coC qo at c56;simp (disch:=omega) only[coC,qo,k1,go_sem]
 repeat' first|(refine cA (c56 _) flk ?_;simp (disch:=omega) only[go_sem])
 obtain⟨rs,hrs⟩:=wD (fa (cmB x) x.col.length)
 have hrl:=np x;have hrg:=λi hi=>JI (x:=x) (i:=i) hi
 rw[<-hrs]at hrl hcv;simp only[<-hrs]at hrg;refine zJ (xs:=rnX x) (itR x ho hn) (JJ x)
  (S:=λi hh=>(∃O8 O9,qK [O8] 0=true∧qK [O9] 0=true∧(∀n,lowO n O8)∧(∀n,lowO n O9)∧hh=h++ [.mem 1 26 (coC x),.mem 1 28 [zf l],.mem 1 4 [.bool false],O,O8,O9])∧ ∀j,j<i->rnB l (rs.getD j (0,0))=true)
  (E:=λs hh=>s= .ret∧R=false∧ ∃O8 O9,(∀n,lowO n O8)∧(∀n,lowO n O9)∧hh=h++ [.mem 1 26 (coC x),.mem 1 28 [zf l],.mem 1 4 [.bool false],O,O8,O9]) ?_ ?_ ?_ ?_ ?_ ?_ ?_
 ·rintro i hh ⟨⟨O8,O9,_,_,l8,l9,rfl⟩,_⟩;refine LowI.app rfl (λo ho=> ?_);simp only[List.mem_cons,List.not_mem_nil,or_false]at ho;rcases ho with rfl|rfl|rfl|rfl|rfl|rfl
  ·left;simp[coC,qo]
  ·left;simp
  ·left;simp
  ·left;simp
  ·right;exact⟨l8 _,l8 _⟩
  ·right;exact⟨l9 _,l9 _⟩
 ·rintro s hh ⟨_,_,O8,O9,l8,l9,rfl⟩;refine LowI.app rfl (λo ho=> ?_);simp only[List.mem_cons,List.not_mem_nil,or_false]at ho;rcases ho with rfl|rfl|rfl|rfl|rfl|rfl
  ·left;simp[coC,qo]
  ·left;simp
  ·left;simp
  ·left;simp
  ·right;exact⟨l8 _,l8 _⟩
  ·right;exact⟨l9 _,l9 _⟩
 ·exact⟨⟨.emp 0,.emp 0,rfl,rfl,λ_=>trivial,λ_=>trivial,rfl⟩,λj hj=>absurd hj (nnz j)⟩
 ·have lu: ∀n,ze n (zf l)=true:=λ_=>rfl
  have lt: ∀n,ze n (qm x.tok)=true:=λ_=>rfl
  simp[ze,ze.lowVs,lu,lt,pd]
  try omega
 ·rintro i hh tl LI TS hi ⟨⟨O8,O9,s8,s9,l8,l9,rfl⟩,hj⟩ hlen K K2 hK hN hR' hX;rw[hrg i hi];rw[hrl]at hi;obtain⟨⟨f,t⟩,hr⟩: ∃r,r=rs.getD i (0,0):=⟨_,rfl⟩
  have er:=hr.symm;rw[er];have s8': ∀m,qK (O8::m) 0=true:=λ_=>s8
  have s9': ∀m,qK (O9::m) 0=true:=λ_=>s9
  simp only[kA];simp (disch:=omega) only[List.append_assoc,coC,s8',s9',go_sem];refine hK _ _ (h++ [.mem 1 26 (coC x),.mem 1 28 [zf l],.mem 1 4 [.bool false],O,.mem (qn (some O8)+1) 3 [.int .i64 (f:Int)],.mem (qn (some O9)+1) 3 [.int .i64 (t:Int)]]) (by simp[coC]) (by simp) ?_;simp (disch:=omega) only[List.append_assoc,go_sem]
  repeat' first|with_reducible apply aiA|exact clz|fail
  refine cA (qfc l f t (h.length+4) _ (h.length+5) _ _ ?ka ?kb hl) (by exact flk) ?_
  case ka=>simp only[go_sem]
  case kb=>simp only[go_sem]
  have l8': ∀n,lowO n (.mem (qn (some O8)+1) 3 [.int .i64 (f:Int)]):=λn c hc=>by simp at hc;subst hc;rfl
  have l9': ∀n,lowO n (.mem (qn (some O9)+1) 3 [.int .i64 (t:Int)]):=λn c hc=>by simp at hc;subst hc;rfl
  cases hb:rnB l (f,t)with
  |true=>
   simp (disch:=omega) only[go_sem];refine hN _ _ (h++ [.mem 1 26 (coC x),.mem 1 28 [zf l],.mem 1 4 [.bool false],O,.mem (qn (some O8)+1) 3 [.int .i64 (f:Int)],.mem (qn (some O9)+1) 3 [.int .i64 (t:Int)]]) (by simp[coC]) (by simp) ⟨⟨_,_,rfl,rfl,l8',l9',rfl⟩,λj hj'=> ?_⟩
   by_cases e:j=i
   ·subst e;rw[er];exact hb
   ·exact hj j om
  |false=>
   have hRf:R=false:=by
    rw[hR];cases hc:cvA x l with
    |false=>rfl
    |true=>
     have h2:=List.all_eq_true.1 (hcv.2 hc) (f,t) (by rw[hr,gdqA,zG hi];exact List.getElem_mem hi);rw[hb]at h2;cases h2
   simp (disch:=omega) only[go_sem];refine hR' _ _ (h++ [.mem 1 26 (coC x),.mem 1 28 [zf l],.mem 1 4 [.bool false],O,.mem (qn (some O8)+1) 3 [.int .i64 (f:Int)],.mem (qn (some O9)+1) 3 [.int .i64 (t:Int)]]) (by simp[coC]) (by simp) ⟨rfl,hRf,_,_,l8',l9',rfl⟩
 ·rintro hh ⟨⟨O8,O9,s8,s9,l8,l9,rfl⟩,hj⟩;have hRt:R=true:=by
   rw[hR];refine hcv.1 (List.all_eq_true.2 λr hr=> ?_);obtain⟨j,hj1,rfl⟩:=List.getElem_of_mem hr
   have:=hj j (by rw[hrl];exact hj1)
   rw[gdqA,zG hj1]at this;exact this
  rw[hRt];simp (disch:=omega) only[go_sem]
  repeat' first|exact wj|fail
 ·rintro e hh ⟨rfl,hRf,O8,O9,l8,l9,rfl⟩;rw[hRf];simp (disch:=omega) only[go_sem]
  repeat' first|exact wj|fail
theorem vaP(x:Co)(l:List Un)(h:w6)(hz:yx x)(hu:bo l)(hp:kt SG h):ACalls Tryz.prog 69 [.agg (coC x),zf l] h (.int .i64 (vaE x l)) h:=by
 have c1:=λl'=>coP x (h++l') hz (hp.app l')
 unfold vaE
 by_cases g:coE x=0
 case neg=>
  have k1:(coE x=0)=False:=eqf g;rw[ipo g];obtain⟨e,he⟩:=wD (coE x)
  rw[<-he]at c1 k1;unfold coC at c1;refine acO N8 ?_;simp (disch:=omega) only[qbU,coC,go_sem]
  repeat' first|(refine cA (c1 _) flk ?_;simp (disch:=omega) only[k1,go_sem])|exact wj|fail
 rw[ine (λhc=>hc g)];have c2:=λh=>qfX x l h (kh g) hz.cl hu
 rw[g]at c1;unfold coC at c1 c2;cases g2:rgB x l<;>rw[g2]at c2
 all_goals
  refine acO N8 ?_;simp (disch:=omega) only[qbU,coC,go_sem]
  repeat' first|((first|refine cA (c1 _) ?_ ?_|refine cA (c2 _) ?_ ?_);exact flk;simp (disch:=omega) only[go_sem])|exact wj|fail
end RC
end
