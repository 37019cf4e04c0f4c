import Derived.Test.YtmieflnoheifbaaGreatDoorK10
import Derived.Test.YtmieflnoheifbaaGreatDoorK3
import Derived.Test.YtmieflnoheifbaaGreatDoorK5
import Derived.Test.YtmieflnoheifbaaGreatDoorK8
import Derived.Test.YtmieflnoheifbaaGreatDoorProg
import Derived.Test.YtmieflnoheifbaaGreatDoorK9
import Derived.Test.YtmieflnoheifbaaGreatDoorK7
set_option linter.all false
set_option maxHeartbeats 64000000
set_option maxRecDepth 100000
section
open Go Go.Proofs AF HY LN
namespace RC
structure qfn (L:List Rd) (s:Nat):Prop where
 src: ∀r∈L,r.src.Pairwise (· < ·)∧ ∀x∈r.src,0<=x∧x<s
 ne: ∀i j,i<j->j<L.length->(L.getD i default).words≠(L.getD j default).words
theorem kA(L:List Rd)(w:List Str):(∃i,i<L.length∧(L.getD i default).words=w∧qbK L w=i)∨((∀i,i<L.length->(L.getD i default).words≠w)∧qbK L w<0):=by
 unfold qbK;rcases zE (λj=>decide (w=(L.getD j default).words)) L.length with⟨i,h1,h2,_,h4⟩|⟨h1,h2⟩
 ·exact .inl ⟨i,h1,(of_decide_eq_true h2).symm,h4⟩
 ·exact .inr ⟨λi hi e=>of_decide_eq_false (h1 i hi) e.symm,om⟩
theorem kF{L:List Rd}{i j:Nat}{r:Rd}(hi:i<L.length):(L.set i r).getD j default=if j=i then r else L.getD j default:=by
 rw[gdqA,List.getElem?_set]
 by_cases e:i=j
 ·subst e;rw[ipo rfl,ipo hi,ipo rfl];rfl
 ·rw[ine e,ine (λh=>e h.symm),gdqA]
theorem qnU{L:List Rd}{w:List Str}{s:Nat}(h:qfn L s):qfn (qdn L w s) (s+1):=by
 have g: ∀i (hi:i<L.length),L.getD i default=L[i]:=λi hi=>by rw[gdqA,zD hi];rfl
 rcases kA L w with⟨i,h1,h2,h3⟩|⟨h1,h2⟩
 ·have e:qdn L w s=L.set i ⟨w,(L.getD i default).src++ [(s:Int)]⟩:=by
   unfold qdn;rw[h3,ine om,itn]
  rw[e];have hm:=h.src (L.getD i default) (by rw[g i h1];exact List.getElem_mem h1);refine⟨λr hr=> ?_,λa b hab hb=> ?_⟩
  ·rcases List.mem_or_eq_of_mem_set hr with hr|rfl
   ·obtain⟨a,b⟩:=h.src r hr;exact⟨a,λx hx=>by have:=b x hx;omega⟩
   ·refine⟨List.pairwise_append.2 ⟨hm.1,List.pairwise_singleton _ _,λa ha b hb=> ?_⟩,λx hx=> ?_⟩
    ·rw[List.mem_singleton]at hb
     have:=hm.2 a ha
     omega
    ·rcases List.mem_append.1 hx with hx|hx
     ·have:=hm.2 x hx;omega
     ·rw[List.mem_singleton]at hx;omega
  ·rw[List.length_set]at hb;rw[kF h1,kF h1];have key: ∀j,j<L.length->j≠i->(L.getD j default).words≠w:=λj hj hne e=>by
    rw[<-h2]at e;rcases Nat.lt_or_gt_of_ne hne with hlt|hlt
    ·exact h.ne j i hlt h1 e
    ·exact h.ne i j hlt hj e.symm
   by_cases ea:a=i
   ·rw[ipo ea,ine om];exact λe=>key b hb om e.symm
   ·rw[ine ea]
    by_cases eb:b=i
    ·rw[ipo eb];exact key a om ea
    ·rw[ine eb];exact h.ne a b hab hb
 ·have e:qdn L w s=L++ [⟨w,[(s:Int)]⟩]:=by
   unfold qdn;rw[ipo h2]
  rw[e];refine⟨λr hr=> ?_,λa b hab hb=> ?_⟩
  ·rcases List.mem_append.1 hr with hr|hr
   ·obtain⟨a,b⟩:=h.src r hr;exact⟨a,λx hx=>by have:=b x hx;omega⟩
   ·rw[List.mem_singleton]at hr;subst hr;exact⟨List.pairwise_singleton _ _,λx hx=>by rw[List.mem_singleton]at hx;omega⟩
  ·rw[lap,List.length_singleton]at hb;have ga: ∀j,j<L.length->(L++ [(⟨w,[(s:Int)]⟩:Rd)]).getD j default=L.getD j default:=λj hj=>by
    rw[gdqA,List.getElem?_append_left hj,gdqA]
   rw[ga a om]
   by_cases eb:b<L.length
   ·rw[ga b eb];exact h.ne a b hab eb
   ·have:b=L.length:=by omega
    subst this;have gb:(L++ [(⟨w,[(s:Int)]⟩:Rd)]).getD L.length default=⟨w,[(s:Int)]⟩:=by
     rw[gdqA,List.getElem?_append_right (nlr _),Nat.sub_self];rfl
    rw[gb];exact h1 a om
theorem qca(x:Co)(f d:Nat): ∀s,qfn (kI x f d s) s:=by
 intro s
 induction s with
 |zero=>exact⟨λr hr=>absurd hr List.not_mem_nil,λi j _ h=>absurd h (nnz j)⟩
 |succ s ih=>exact qnU ih
theorem qpX(x:Co)(f t:Nat):qfn (qbL x f t) x.sig.length:=qca x f (t-f) x.sig.length
def owG(b:List Wd)(k:Int):Nat->List Str
 |0=> []
 |i+1=>owG b k i++if (b.getD i default).unit=k then [(b.getD i default).text] else []
structure qr6 (L:List Rd) (s:Nat) (W:Nat->List Str):Prop where
 has: ∀i,i<s-> ∃j,j<L.length∧(i:Int)∈(L.getD j default).src
 wd: ∀j,j<L.length-> ∀x∈(L.getD j default).src,(L.getD j default).words=W x.toNat
 nn: ∀j,j<L.length->(L.getD j default).src≠ []
theorem qaM{L:List Rd}{r:Rd}{j:Nat}:(L++ [r]).getD j default=if j<L.length then L.getD j default else if j=L.length then r else default:=by
 rw[gdqA];split
 ·rename_i h;rw[List.getElem?_append_left h,gdqA]
 ·rename_i h;rw[List.getElem?_append_right om];split
  ·rename_i e;subst e;rw[Nat.sub_self];rfl
  ·rw[List.getElem?_eq_none (by rw[List.length_singleton];omega)];rfl
theorem qnT{L:List Rd}{s:Nat}{W:Nat->List Str}(h:qr6 L s W):qr6 (qdn L (W s) s) (s+1) W:=by
 rcases kA L (W s)with⟨k,h1,h2,h3⟩|⟨h1,h2⟩
 ·have e:qdn L (W s) s=L.set k ⟨W s,(L.getD k default).src++ [(s:Int)]⟩:=by
   unfold qdn;rw[h3,ine om,itn]
  rw[e];refine⟨λi hi=> ?_,λj hj x hx=> ?_,λj hj=> ?_⟩
  ·by_cases ei:i=s
   ·subst ei;exact⟨k,by rw[List.length_set];exact h1,by rw[kF h1,ipo rfl];exact List.mem_append_right _ (List.mem_singleton.2 rfl)⟩
   ·obtain⟨j,hj,hx⟩:=h.has i om;refine⟨j,by rw[List.length_set];exact hj,?_⟩;rw[kF h1];split
    ·rename_i e';subst e';exact List.mem_append_left _ hx
    ·exact hx
  ·rw[List.length_set]at hj;rw[kF h1]at hx ⊢;split at hx
   ·rename_i e';rw[ipo e'];rcases List.mem_append.1 hx with hx|hx
    ·rw[<-h2];exact h.wd k h1 x hx
    ·rw[List.mem_singleton]at hx;subst hx;rfl
   ·rename_i e';rw[ine e'];exact h.wd j hj x hx
  ·rw[List.length_set]at hj;rw[kF h1];split
   ·exact λe=>absurd (List.append_eq_nil_iff.1 e).2 (by simp)
   ·exact h.nn j hj
 ·have e:qdn L (W s) s=L++ [⟨W s,[(s:Int)]⟩]:=by
   unfold qdn;rw[ipo h2]
  rw[e];refine⟨λi hi=> ?_,λj hj x hx=> ?_,λj hj=> ?_⟩
  ·by_cases ei:i=s
   ·subst ei;exact⟨L.length,by rw[lap,List.length_singleton];omega,by rw[qaM,ine om,ipo rfl];exact List.mem_singleton.2 rfl⟩
   ·obtain⟨j,hj,hx⟩:=h.has i om;exact⟨j,by rw[lap,List.length_singleton];omega,by rw[qaM,ipo hj];exact hx⟩
  ·rw[lap,List.length_singleton]at hj;rw[qaM]at hx ⊢;split at hx
   ·rename_i hl;rw[ipo hl];exact h.wd j hl x hx
   ·rename_i hl;rw[ine hl,ipo om];rw[ipo om]at hx;rw[List.mem_singleton]at hx;subst hx;rfl
  ·rw[lap,List.length_singleton]at hj;rw[qaM];split
   ·rename_i hl;exact h.nn j hl
   ·rw[ipo om];simp
theorem qdP(x:Co)(f d:Nat): ∀s,qr6 (kI x f d s) s λi=>rdG x i f d:=by
 intro s
 induction s with
 |zero=>exact⟨λi h=>absurd h (nnz i),λj h=>absurd h (nnz j),λj h=>absurd h (nnz j)⟩
 |succ s ih=>exact qnT ih
end RC
end
section
open Go Go.Proofs AF
def Uz:List Nat:= []
def qw3:C:=
 (vU [O1 4 (.box 0 26) 0,ON 8 (.nilo 1 1 9) []] (vU [⟨some 12,none,.bslc 2 1 0 9 [.str []] [],[]⟩,MV 9 12] ((vU [MV 13 1,MV 10 13] (C.block 0 ((vU [MV 14 10,MV 15 2,BI 16 .lss 14
 15] (vW 16 0)).seq ((C.block 1 (vU [vN 19 3 4,LD 20 19,MV 21 10,O2 22 (.idxA 1) 20 21,LD 23 22,MV 24 3,O2 25 (.idxA 1) 23 24,LD 26 25,MV 11 26] (vU [MV 27 11,vP 28 .geq 27 0]
 (vV 28 (vY [MV 29 9,vN 30 2 4,LD 31 30,MV 32 3,O2 33 (.idxA 1) 31 32,LD 34 33,MV 35 11,O2 36 (.idxA 6) 34 35,vN 37 0 36,LD 38 37,⟨some 39,none,.bslc 3 1 1 9 [.str []]
 [(0,1)],[.t 38]⟩,O2 40 (.app 4 1 9 16) 29 39,MV 9 40]))))).seq (vZ 17 10))).loop)).seq (vX [MV 41 9,MV 8 41]))))
theorem qy7:qG Tryz.prog 294 42 5 [RV.tmp 8] qw3:=fi Tryz.f294 [4,8,12,39,40] Uz []
def qwD:C:=
 (vU [O1 3 (.box 0 26) 0,ON 6 (.nilo 1 2 152) []] (vU [⟨some 12,none,.bslc 2 2 0 152 [.nl,.nl] [],[]⟩,MV 7 12] ((vU [vO 8 0] (C.block 0 ((vU [MV 13 8,vN 14 1 3,LD 15 14,O1 16
 .len 15,BI 17 .lss 13 16] (vW 17 0)).seq ((C.block 1 (vU [O1 20 (.load (some 4)) 3,MV 21 1,MV 22 2,MV 23 8,ON 24 (.call 294 true) [.t 20,.t 21,.t 22,.t 23],MV 9 24] (vU [MC 10
 (.bool false)] ((vU [vO 11 0] (C.block 2 ((vU [MV 25 11,MV 26 7,O1 27 .len 26,BI 28 .lss 25 27,MV 29 28,MG 30 29 true 10,P1 31 29 true (.un UnOp.not) 30,PF 32 29 31] (vW 32
 2)).seq ((C.block 3 (vU [MV 35 7,MV 36 11,O2 37 (.idxA 2) 35 36,vN 38 0 37,LD 39 38,MV 40 9,O2 41 (.call 93 true) 39 40] (vV 41 (vU [MV 42 7,MV 43 11,MV 44 7,MV 45 11,O2 46
 (.idxA 2) 44 45,vN 47 1 46,LD 48 47,MV 49 8,⟨some 50,none,.bslc 3 1 1 3 [i6 0] [(0,1)],[.t 49]⟩,O2 51 (.app 4 1 3 8) 48 50,O2 52 (.idxA 2) 42 43,vN 53 1 52,ST 1 53 51] (vY [MC
 10 (.bool true)]))))).seq (vZ 33 11))).loop)).seq (vU [MV 54 10,O1 55 (.un UnOp.not) 54] (vV 55 (vY [MV 56 7,MV 57 9,MV 58 8,⟨some 59,none,.bslc 5 1 1 3 [i6 0] [(0,1)],[.t
 58]⟩,⟨some 60,none,.build [.nl,.nl] [(0,1),(1,1)],[.t 57,.t 59]⟩,⟨some 61,none,.bslc 6 2 1 152 [.nl,.nl] [(0,2)],[.t 60]⟩,O2 62 (.app 7 2 152 48) 56 61,MV 7 62]))))))).seq (vZ
 18 8))).loop)).seq (vX [MV 63 7,MV 6 63]))))
theorem qyE:qG Tryz.prog 230 64 8 [RV.tmp 6] qwD:=fi Tryz.f230 [3,6,12,50,51,59,61,62] Uz []
def qsv:C:=
 (vU [MC 4 (.bool false)] ((vU [MV 6 0,O1 7 .len 6,MV 8 1,O1 9 .len 8,BI 10 .neq 7 9] (vV 10 (vX [MC 4 (.bool false)]))).seq ((vU [vO 5 0] (C.block 0 ((v6 11 5 0 0).seq ((C.block
 1 (vU [MV 17 0,MV 18 5,O2 19 (.idxA 2) 17 18,vN 20 0 19,LD 21 20,MV 22 1,MV 23 5,O2 24 (.idxA 2) 22 23,vN 25 0 24,LD 26 25,O2 27 (.call 93 true) 21 26,O1 28 (.un UnOp.not)
 27,MV 29 28,vS 30 29 0,vS 31 29 5,vR 32 29 (.idxA 2) 30 31,v7 33 29 1 32,v8 34 29 33,vS 35 29 1,vS 36 29 5,vR 37 29 (.idxA 2) 35 36,v7 38 29 1 37,v8 39 29 38,vR 40 29 (.call 99
 true) 34 39,vQ 41 29 (.un UnOp.not) 40,PT 42 29 41] (vV 42 (vX [MC 4 (.bool false)])))).seq (vZ 15 5))).loop)).seq (vX [MC 4 (.bool true)]))))
theorem qrr:qG Tryz.prog 229 43 0 [RV.tmp 4] qsv:=fi Tryz.f229 [] Uz []
def qwE:C:=
 (vU [O1 2 (.box 0 26) 0,MC 4 (.bool false)] ((vU [vO 5 0] (C.block 0 ((v6 6 5 1 0).seq ((C.block 1 (vU [MV 12 1,MV 13 5,O2 14 (.idxA 1) 12 13,LD 15 14,vP 16 .lss 15 0,MV 17
 16,v7 18 17 2 2,v8 19 17 18,vS 20 17 5,vR 21 17 (.idxA 1) 19 20,v8 22 17 21,vS 23 17 1,vS 24 17 5,vR 25 17 (.idxA 1) 23 24,v8 26 17 25,vR 27 17 (.idxA 6) 22 26,v7 28 17 0 27,v8
 29 17 28,v7 30 17 2 2,v8 31 17 30,vT 32 17 (.idxA 1) 31 (i6 0),v8 33 17 32,vS 34 17 1,vT 35 17 (.idxA 1) 34 (i6 0),v8 36 17 35,vR 37 17 (.idxA 6) 33 36,v7 38 17 0 37,v8 39 17
 38,vR 40 17 (.bin .neq) 29 39,PT 41 17 40] (vV 41 (vX [MC 4 (.bool false)])))).seq (vZ 10 5))).loop)).seq (vX [MC 4 (.bool true)])))
theorem qyF:qG Tryz.prog 231 42 1 [RV.tmp 4] qwE:=fi Tryz.f231 [2] Uz []
def qsp:C:=
 (vU [O1 2 (.box 0 26) 0,vO 4 0] ((vU [O1 10 (.load (some 4)) 2,O1 11 (.call 10 true) 10,vP 12 .neq 11 0] (vV 12 (vX [vO 4 1]))).seq (vU [vN 13 3 2,LD 14 13,O1 15 .len 14,⟨some
 16,none,.mkslc 1 1 4 [.bool false] 1,[.t 15,.t 15]⟩,MV 5 16] ((vU [vO 6 0] (C.block 0 ((v6 17 6 1 0).seq ((C.block 1 (vU [MV 23 1,MV 24 6,O2 25 (.idxA 3) 23 24,O1 26 (.load
 (some 3)) 25,⟨some 7,none,.alloc 2 39 [i6 0,i6 0,.nl],[]⟩,ST 3 7 26] ((vU [vN 27 0 7,LD 28 27,vP 29 .lss 28 0,MV 30 29,v7 31 30 0 7,v8 32 30 31,v7 33 30 1 7,v8 34 30 33,vR 35
 30 (.bin .geq) 32 34,PT 36 30 35,MV 37 36,v7 38 37 1 7,v8 39 37 38,v7 40 37 3 2,v8 41 37 40,vQ 42 37 .len 41,vR 43 37 (.bin .gtr) 39 42,PT 44 37 43,MV 45 44,vS 46 45 6,vT 47 45
 (.bin .gtr) 46 (i6 0),vS 48 45 47,P1 49 48 true (.fldA 0) 7,P1 50 48 true (.load none) 49,MG 51 48 true 1,MG 52 48 true 6,PC 53 48 true (.bin .sub) 52 (i6 1),P2 54 48 true
 (.idxA 3) 51 53,P1 55 48 true (.fldA 1) 54,P1 56 48 true (.load none) 55,P2 57 48 true (.bin .leq) 50 56,QF 58 45 false 48 57,PT 59 45 58,MV 60 59,v7 61 60 2 7,v8 62 60 61,vQ
 63 60 (.load (some 4)) 2,v7 64 60 0 7,v8 65 60 64,v7 66 60 1 7,v8 67 60 66,PN 68 60 false (.call 230 true) [.t 63,.t 65,.t 67],vR 69 60 (.call 229 true) 62 68,vQ 70 60 (.un
 UnOp.not) 69,PT 71 60 70] (vV 71 (vX [vO 4 20]))).seq (vU [vN 72 0 7,LD 73 72,MV 8 73] (C.block 2 ((vU [MV 74 8,vN 75 1 7,LD 76 75,BI 77 .lss 74 76] (vW 77 2)).seq ((C.block 3
 (vY [MV 80 5,MV 81 8,O2 82 (.idxA 1) 80 81,⟨none,none,.store 1,[.t 82,.c (.bool true)]⟩])).seq (vZ 78 8))).loop))))).seq (vZ 21 6))).loop)).seq ((vU [vO 9 0] (C.block 4 ((vU
 [MV 83 9,vN 84 3 2,LD 85 84,O1 86 .len 85,BI 87 .lss 83 86] (vW 87 4)).seq ((C.block 5 (vU [MV 90 5,MV 91 9,O2 92 (.idxA 1) 90 91,LD 93 92,O1 94 (.un UnOp.not) 93,MV 95 94,P1
 96 95 true (.load (some 4)) 2,P1 97 95 true (.fldA 3) 2,P1 98 95 true (.load none) 97,MG 99 95 true 9,P2 100 95 true (.idxA 1) 98 99,P1 101 95 true (.load none) 100,P2 102 95
 true (.call 231 true) 96 101,P1 103 95 true (.un UnOp.not) 102,PF 104 95 103] (vV 104 (vX [vO 4 20])))).seq (vZ 88 9))).loop)).seq (vX [vO 4 0]))))))
theorem qrk:qG Tryz.prog 160 105 3 [RV.tmp 4] qsp:=fi Tryz.f160 [2,16,7] Uz []
def qEL:C:=
 (vU [MC 2 (.bool false)] ((vU [vO 3 0] (C.block 0 ((v6 5 3 0 0).seq ((C.block 1 ((vU [MV 11 0,MV 12 3,O2 13 (.idxA 3) 11 12,vN 14 2 13,LD 15 14,O1 16 .len 15,vP 17 .gtr 16 6]
 (vV 17 (vX [MC 2 (.bool true)]))).seq (vU [vO 4 0] (C.block 2 ((vU [MV 18 4,MV 19 0,MV 20 3,O2 21 (.idxA 3) 19 20,vN 22 2 21,LD 23 22,O1 24 .len 23,BI 25 .lss 18 24] (vW 25
 2)).seq ((C.block 3 (vU [MV 28 0,MV 29 3,O2 30 (.idxA 3) 28 29,vN 31 2 30,LD 32 31,MV 33 4,O2 34 (.idxA 2) 32 33,vN 35 1 34,LD 36 35,O1 37 .len 36,vP 38 .gtr 37 8,MV 39 38,vS
 40 39 0,vS 41 39 3,vR 42 39 (.idxA 3) 40 41,v7 43 39 2 42,v8 44 39 43,vS 45 39 4,vR 46 39 (.idxA 2) 44 45,v7 47 39 0 46,v8 48 39 47,vT 49 39 (.call 158 true) 48 (i6 8),PT 50 39
 49] (vV 50 (vX [MC 2 (.bool true)])))).seq (vZ 26 4))).loop)))).seq (vZ 9 3))).loop)).seq (vX [MV 51 0,O1 52 .len 51,vP 53 .gtr 52 12,MV 2 53])))
theorem qDl:qG Tryz.prog 82 54 0 [RV.tmp 2] qEL:=fi Tryz.f82 [] Uz []
def c9s:C:=
 (vU [O1 1 (.box 0 26) 0,MC 2 (.bool false)] ((vU [vO 3 0] (C.block 0 ((vU [MV 4 3,vN 5 3 1,LD 6 5,O1 7 .len 6,BI 8 .lss 4 7] (vW 8 0)).seq ((C.block 1 (vU [vN 11 3 1,LD 12 11,MV
 13 3,O2 14 (.idxA 1) 12 13,LD 15 14,O1 16 .len 15,vP 17 .gtr 16 36] (vV 17 (vX [MC 2 (.bool true)])))).seq (vZ 9 3))).loop)).seq (vX [vN 18 2 1,LD 19 18,O1 20 (.call 58 true)
 19,MV 21 20,v7 22 21 3 1,v8 23 21 22,vQ 24 21 .len 23,vT 25 21 (.bin .gtr) 24 (i6 24),PT 26 21 25,MV 27 26,v7 28 27 1 1,v8 29 27 28,vQ 30 27 .len 29,vT 31 27 (.bin .gtr) 30 (i6
 36),PT 32 27 31,MV 33 32,v7 34 33 0 1,v8 35 33 34,v7 36 33 1 1,v8 37 33 36,vR 38 33 (.call 59 true) 35 37,PT 39 33 38,MV 2 39])))
theorem qFG:qG Tryz.prog 9 40 1 [RV.tmp 2] c9s:=fi Tryz.f9 [1] Uz []
def qEE:C:=
 (vU [MC 2 (.bool false)] (vU [vO 3 1] ((vU [vO 4 0] (C.block 0 ((v6 7 4 0 0).seq ((C.block 1 ((vU [MV 13 0,MV 14 4,O2 15 (.idxA 1) 13 14,LD 16 15,O1 17 .len 16,vP 18 .gtr 17
 6,MV 19 18,vS 20 19 4,vT 21 19 (.bin .geq) 20 (i6 4),vS 22 19 21,MG 23 22 true 0,MG 24 22 true 4,P2 25 22 true (.idxA 1) 23 24,P1 26 22 true (.load none) 25,P1 27 22 true .len
 26,PC 28 22 true (.bin .gtr) 27 (i6 1),QF 29 19 false 22 28,PT 30 19 29] (vV 30 (vX [MC 2 (.bool true)]))).seq ((vU [MV 31 4,vP 32 .lss 31 4] (vV 32 (vY [MV 33 3,MV 34 0,MV 35
 4,O2 36 (.idxA 1) 34 35,LD 37 36,O1 38 .len 37,vP 39 .add 38 1,BI 40 .mul 33 39,MV 3 40]))).seq (vU [vO 5 0] (C.block 2 ((vU [MV 41 5,MV 42 0,MV 43 4,O2 44 (.idxA 1) 42 43,LD
 45 44,O1 46 .len 45,BI 47 .lss 41 46] (vW 47 2)).seq ((C.block 3 (vU [MV 50 0,MV 51 4,O2 52 (.idxA 1) 50 51,LD 53 52,MV 54 5,O2 55 (.idxA 6) 53 54,O1 56 (.load (some 6))
 55,⟨some 6,none,.alloc 0 119 [.str [],.str [],.str [],i6 0,i6 0,.str []],[]⟩,ST 6 6 56] (vU [vN 57 0 6,LD 58 57,O1 59 .slen 58,vP 60 .gtr 59 12,MV 61 60,v7 62 61 1 6,v8 63 61
 62,vQ 64 61 .slen 63,vT 65 61 (.bin .gtr) 64 (i6 12),PT 66 61 65,MV 67 66,v7 68 67 2 6,v7 69 67 0 68,v8 70 67 69,vQ 71 67 .slen 70,vT 72 67 (.bin .gtr) 71 (i6 20),PT 73 67
 72,MV 74 73,v7 75 74 5 6,v8 76 74 75,vQ 77 74 .slen 76,vT 78 74 (.bin .gtr) 77 (i6 20),PT 79 74 78] (vV 79 (vX [MC 2 (.bool true)]))))).seq (vZ 48 5))).loop))))).seq (vZ 11
 4))).loop)).seq (vX [MV 80 3,vP 81 .gtr 80 400,MV 82 81,vS 83 82 0,vQ 84 82 .len 83,vT 85 82 (.bin .gtr) 84 (i6 6),vS 86 82 85,MG 87 86 true 0,P1 88 86 true .len 87,PC 89 86
 true (.bin .leq) 88 (i6 32),QF 90 82 false 86 89,PT 91 82 90,MV 92 91,vS 93 92 0,vQ 94 92 .len 93,vT 95 92 (.bin .gtr) 94 (i6 34),PT 96 92 95,MV 2 96]))))
theorem qDe:qG Tryz.prog 58 97 1 [RV.tmp 2] qEE:=fi Tryz.f58 [6] Uz []
def qEF:C:=
 (vU [MC 4 (.bool false)] ((vU [vO 5 0] (C.block 0 ((v6 6 5 1 0).seq ((C.block 1 (vU [MV 12 1,MV 13 5,O2 14 (.idxA 1) 12 13,LD 15 14,O1 16 .slen 15,vP 17 .gtr 16 20] (vV 17 (vX
 [MC 4 (.bool true)])))).seq (vZ 10 5))).loop)).seq (vX [MV 18 0,O1 19 .slen 18,vP 20 .gtr 19 20,MV 4 20])))
theorem qDf:qG Tryz.prog 59 21 0 [RV.tmp 4] qEF:=fi Tryz.f59 [] Uz []
end
section
open Go Go.Proofs AF HY LN
namespace RC
theorem qC7(u:Un)(c:Int)(h:wh):ACalls Tryz.prog 153 [.agg (unC u),.ip [.int .i64 c]] h (.bool (decide (u.frm<=c)&&decide (c<u.to))) h:=by
 by_cases g:u.frm<=c
 ·have k1:(u.frm<=c)=True:=eqt g;rw[dqt g,Bool.true_and];refine acO qrj ?_;simp (disch:=omega) only[qso,unC,k1,go_sem]
  repeat' first|exact wa|with_reducible apply aiA|exact clz|fail
 ·have k1:(u.frm<=c)=False:=eqf g;rw[dqf g,Bool.false_and];refine acO qrj ?_;simp (disch:=omega) only[qso,unC,k1,go_sem]
  repeat' first|exact wa|with_reducible apply aiA|exact clz|fail
theorem qFT(l:List Un)(c:Int)(k v:Nat)(h:wh)(hk:qu k h=some (.mem v 3 [.int .i64 c]))(hl:l.length<=1000000000):
  ACalls Tryz.prog 65 [qZ l,.fn (.func 153) [] [.op k v 0]] h (.int .i64 (fnU l c)) h:=by
 have hc:=qR hk;unfold qZ fnU;refine qeG qzH l.length (λj=>unC (l.getD j default)) (λj=> .agg (unC (l.getD j default))) _ [] [.op k v 0] _ h (λi _=>⟨rfl,by simp[kv,unC],rfl,rfl,rfl⟩) (λi _=> ?_) om;refine ACalls.borrow ?_ rfl;have e:([AV.agg (unC (l.getD i default))]++ [AV.op k v 0]).map (rei (λ_=>true) h 8)= [.agg (unC (l.getD i default)),.ip [.int .i64 c]]:=by
  simp only[lca,lna,List.map_cons,List.map_nil,rei_op,if_true,hc,ipOf_some,List.drop_zero,rei_agg];rfl
 rw[lna,e];exact qC7 _ c _
def fnR(l:List Un)(c:Int):Int:=if c<0 then 0 else fnU l c
def fnE(c:Int):Int:=if c<0 then 2 else 0
theorem qDv(l:List Un)(c:Int)(h:wh)(hl:l.length<=1000000000):ACalls Tryz.prog 76 [qZ l,.int .i64 c] h (.tup [.int .i64 (fnR l c),.int .i64 (fnE c)]) h:=by
 unfold fnR fnE
 by_cases g:c<0
 ·have k1:(c<0)=True:=eqt g;rw[ipo g,ipo g];refine acO qzL ?_;simp (disch:=omega) only[qCF,k1,go_sem]
  repeat' first|exact wa|with_reducible apply aiA|exact clz|fail
 ·have k1:(c<0)=False:=eqf g;rw[ine g,ine g];have c1:=qFT l c h.length 1 (h++ [.mem 1 3 [.int .i64 c]]) (by rw[getO_app0];rfl) hl;refine acO qzL ?_;simp (disch:=omega) only[qCF,k1,go_sem]
  repeat' first|(refine cA (c1) flk ?_;simp (disch:=omega) only[go_sem])|exact wa|with_reducible apply aiA|exact clz|fail
def rnX(x:Co):List wi:=(qdh (cmB x) x.col.length).map λr=> [.int .i64 (r.1:Int),.int .i64 (r.2:Int)]
theorem qE6(x:Co)(h:wh):ACalls Tryz.prog 62 [.agg (coC x)] h (.fn (.func 139) [] [.ip (coC x)]) h:=by
 unfold coC;refine acO qDg ?_;simp (disch:=omega) only[qEG,go_sem]
 repeat' first|exact wa|fail
theorem qGd(u:Un)(f t:Int)(h:wh):ACalls Tryz.prog 226 [.agg (unC u),.ip [.int .i64 f],.ip [.int .i64 t]] h (.bool (decide (u.frm<=f)&&decide (t<=u.to))) h:=by
 by_cases g:u.frm<=f
 ·have k1:(u.frm<=f)=True:=eqt g;rw[dqt g,Bool.true_and];refine acO qrq ?_;simp (disch:=omega) only[qsu,unC,k1,go_sem]
  repeat' first|exact wa|with_reducible apply aiA|exact clz|fail
 ·have k1:(u.frm<=f)=False:=eqf g;rw[dqf g,Bool.false_and];refine acO qrq ?_;simp (disch:=omega) only[qsu,unC,k1,go_sem]
  repeat' first|exact wa|with_reducible apply aiA|exact clz|fail
theorem qAt{p:Nat->Bool}{n f t:Nat}(h1:f<=t)(h2:t<=n)(h3: ∀j,f<=j->j<t->p j=false)(h4:t<n->p t=true):nxt p (n-f) f=t:=by
 obtain⟨a1,a2,a3,a4⟩:=qgX p (n-f) f;rcases Nat.lt_trichotomy (nxt p (n-f) f) t with h|h|h
 ·have:=a4 om
  rw[h3 _ a1 h]at this;cases this
 ·exact h
 ·have:=h4 om
  rw[a3 t h1 h]at this;cases this
theorem qAU{x:Co}{pre rest:List (Nat×Nat)}{r:Nat×Nat}(h:qdh (cmB x) x.col.length=pre++r::rest): ∃g:pre.length<(rnX x).length,(rnX x)[pre.length]= [.int .i64 (r.1:Int),.int .i64 (r.2:Int)]:=by
 unfold rnX;refine⟨by rw[h];simp,?_⟩;simp only[h,List.getElem_map];rw[List.getElem_append_right (nlr _)];simp
structure RnS where
 f:Nat
 D:Nat
 pre:List (Nat×Nat)
 hh:wh
theorem itR(x:Co)(ho:CoOk x)(hn:x.col.length<=1000000000):qnH Tryz.prog 139 [.ip (coC x)] (rnX x):=by
 intro h ts LI S E hS hE body start hts;have hcom:=λk h hk=>cmP (x:=x) (k:=k) h ho hk
 obtain⟨p,hp⟩:=wg (cmB x)
 have hxl:(rnX x).length=(qdh p x.col.length).length:=by rw[hp];simp[rnX]
 have hat:= @qAU x;rw[<-hp]at hat;rw[<-hp]at hcom;refine acQ qx8 ?_;simp (disch:=omega) only[qv8,coC,go_sem];refine qk (T:=λi:RnS=>qP 36 [(0,.yld h.length),(1,.ip (coC x)),(3,.int .i64 i.f)]) (H:=λi=>i.hh++ [.lp .ready ts LI])
  (inv:=λi=>i.f<=x.col.length+1∧x.col.length-i.f<i.D∧qdh p x.col.length=i.pre++kS p x.col.length i.D i.f∧S i.pre.length i.hh) (m:=λi=>x.col.length+1-i.f) ⟨0,x.col.length+1,[],h⟩ ⟨nzl _,by simp only;omega,rfl,start⟩ (Wk.temps ?_) ?_
 ·(simp only[coC,go_sem,qf,qc,qe];try exact we)
 rintro⟨f,D,pre,hh⟩ ⟨i1,i2,i3,i4⟩ K hK;simp only at i1 i2 i3 i4 hK;obtain⟨hlen,hlow⟩:=hS _ _ i4;have hb:(h++ [AObj.lp LS.ready ts LI]).length=(hh++ [AObj.lp LS.ready ts LI]).length:=by simp[hlen]
 by_cases hi:f<x.col.length
 ·have q0:((f:Int)<x.col.length)=True:=wj;obtain⟨D',rfl⟩: ∃D',D=D'+1:=⟨D-1,om⟩
  have hD:kS p x.col.length (D'+1) f=(if f<nxt p (x.col.length-f) f then [(f,nxt p (x.col.length-f) f)] else [])++kS p x.col.length D' (nxt p (x.col.length-f) f+1):=by
   conv=>lhs;unfold kS
   rw[ine om]
  simp (disch:=omega) only[coC,qv,q0,go_sem]
  repeat' first|with_reducible apply aiA|exact clz|fail
  refine qk (T:=λt:Nat=>qP 36 [(0,.yld h.length),(1,.ip (coC x)),(3,.int .i64 f),(4,.int .i64 t)]) (H:=λ_=>hh++ [.lp .ready ts LI])
   (inv:=λt=>f<=t∧t<=x.col.length∧ ∀j,f<=j->j<t->p j=false) (m:=λt=>x.col.length-t) f ⟨nlr _,om,λj h1 h2=>by omega⟩ (Wk.temps ?_) ?_
  ·(simp only[coC,go_sem,qf,qc,qa,qe];try exact we)
  rintro t ⟨t1,t2,t3⟩ K2 hK2;have fin:(t<x.col.length->p t=true)->kS p x.col.length (D'+1) f=(if f<t then [(f,t)] else [])++kS p x.col.length D' (t+1):=λh4=>by
   rw[hD,qAt t1 t2 t3 h4]
  have hend: ∀hh',kS p x.col.length (D'+1) f=(if f<t then [(f,t)] else [])++kS p x.col.length D' (t+1)->S (pre++if f<t then [(f,t)] else []).length hh'->qdh p x.col.length=(pre++if f<t then [(f,t)] else [])++kS p x.col.length D' (t+1):=λhh' h1 _=>by
   rw[i3,h1,List.append_assoc]
  by_cases ht:t<x.col.length
  ·have q1:((t:Int)<x.col.length)=True:=wj;have c1:=λh=>hcom t h ht
   cases hpt:p t with
   |false=>
    rw[hpt]at c1;unfold coC qv at c1;simp (disch:=omega) only[coC,qv,q1,go_sem]
    repeat' first|(refine cG (λe=>c1 _) flk ?_;simp (disch:=omega) only[go_sem])|with_reducible apply aiA|exact clz|fail
    refine hK2 _ _ (t+1) ⟨om,ht,λj h1 h2=> ?_⟩ om (Wk.temps ?_)
    ·by_cases e:j=t
     ·subst e;exact hpt
     ·exact t3 j h1 om
    ·(simp only[coC,go_sem,qf,qc,qa,qe];try exact we)
   |true=>
    rw[hpt]at c1;have hf:=fin λ_=>hpt
    unfold coC qv at c1
    by_cases gt:f<t
    ·have q2:((f:Int)<t)=True:=wj;rw[ipo gt]at hf;rw[hf]at i3;obtain⟨hdl,hxx⟩:=hat (pre:=pre) (r:=(f,t)) (rest:=kS p x.col.length D' (t+1)) i3;have hb':=body pre.length hh [] hdl i4;rw[hxx]at hb';have i5:qdh p x.col.length=(pre++ [(f,t)])++kS p x.col.length D' (t+1):=by rw[i3];simp
     simp (disch:=omega) only[coC,qv,q1,go_sem]
     repeat' first|(refine cG (λe=>c1 _) flk ?_;simp (disch:=omega) only[q2,go_sem])|with_reducible apply aiA|exact clz|fail
     ·exact⟨.ready,ts,LI,kT hlen⟩
     ·refine kr.mono ?_ hb';rintro v h' ⟨hh',⟨rfl,hn',rfl⟩|⟨st,rfl,hs',rfl⟩⟩
      ·simp (disch:=omega) only[go_sem];refine hK _ _ ⟨t+1,D',pre++ [(f,t)],hh'⟩ ⟨by simp only;omega,by simp only;omega,i5,by simp only[lap,lco,lnl];exact hn'⟩ (by simp only;omega) (Wk.temps ?_)
       (simp only[coC,go_sem,qf,qc,qa,qe];try exact we)
      ·simp (disch:=omega) only[go_sem];obtain⟨r1,r2⟩:=(hE _ _ hs').ret (L:=LI) st hts;exact jN trivial r1 r2 ⟨_,.inr ⟨st,hs',rfl⟩⟩ (qi)
    ·have q2:((f:Int)<t)=False:=wl;rw[ine gt,lna]at hf;rw[hf]at i3;simp (disch:=omega) only[coC,qv,q1,go_sem]
     repeat' first|(refine cG (λe=>c1 _) flk ?_;simp (disch:=omega) only[q2,go_sem])|with_reducible apply aiA|exact clz|fail
     refine hK _ _ ⟨t+1,D',pre,hh⟩ ⟨by simp only;omega,by simp only;omega,i3,i4⟩ (by simp only;omega) (Wk.temps ?_)
     (simp only[coC,go_sem,qf,qc,qa,qe];try exact we)
  ·have q1:((t:Int)<x.col.length)=False:=wl;have hf:=fin λhx=>absurd hx ht
   by_cases gt:f<t
   ·have q2:((f:Int)<t)=True:=wj;rw[ipo gt]at hf;rw[hf]at i3;obtain⟨hdl,hxx⟩:=hat (pre:=pre) (r:=(f,t)) (rest:=kS p x.col.length D' (t+1)) i3;have hb':=body pre.length hh [] hdl i4;rw[hxx]at hb';have i5:qdh p x.col.length=(pre++ [(f,t)])++kS p x.col.length D' (t+1):=by rw[i3];simp
    simp (disch:=omega) only[coC,qv,q1,go_sem]
    repeat' first|(refine qj ( .bool false) ?_;simp (disch:=omega) only[q2,go_sem])|with_reducible apply aiA|exact clz|fail
    ·exact⟨.ready,ts,LI,kT hlen⟩
    ·refine kr.mono ?_ hb';rintro v h' ⟨hh',⟨rfl,hn',rfl⟩|⟨st,rfl,hs',rfl⟩⟩
     ·simp (disch:=omega) only[go_sem];refine hK _ _ ⟨t+1,D',pre++ [(f,t)],hh'⟩ ⟨by simp only;omega,by simp only;omega,i5,by simp only[lap,lco,lnl];exact hn'⟩ (by simp only;omega) (Wk.temps ?_)
      (simp only[coC,go_sem,qf,qc,qa,qe];try exact we)
     ·simp (disch:=omega) only[go_sem];obtain⟨r1,r2⟩:=(hE _ _ hs').ret (L:=LI) st hts;exact jN trivial r1 r2 ⟨_,.inr ⟨st,hs',rfl⟩⟩ (qi)
   ·exact absurd (show f<t by omega) gt
 ·have q0:((f:Int)<x.col.length)=False:=wl;have hD:kS p x.col.length D f= []:=by
   cases D with
   |zero=>rfl
   |succ D=>unfold kS;rw[ipo om]
  rw[hD,lan]at i3;simp (disch:=omega) only[coC,qv,q0,go_sem]
  repeat' first|with_reducible apply aiA|exact clz|fail
  obtain⟨r1,r2⟩:=(hS _ _ i4).ret (L:=LI) .ready hts;exact jN trivial r1 r2 ⟨hh,.inl ⟨by rw[hxl,i3];exact i4,rfl⟩⟩ (qi)
structure qcS (l:List Un):Prop where
 n:l.length<=1000000000
 rd: ∀i,(l.getD i default).rds.length<=1000000000
 sr: ∀i j,((l.getD i default).rds.getD j default).src.length<=1000000000
 wd: ∀i j,((l.getD i default).rds.getD j default).words.length<=1000000000
structure qi2 (L:List Rd):Prop where
 n:L.length<=1000000000
 sr: ∀j,(L.getD j default).src.length<=1000000000
 wd: ∀j,(L.getD j default).words.length<=1000000000
theorem qC3(a b:List Str)(h:wh)(h1:a.length<=1000000000)(h2:b.length<=1000000000):ACalls Tryz.prog 18 [strs a,strs b] h (.bool (decide (a=b))) h:=by
 have c:=qC4 a b.length (λj=>b.getD j []) h h1 h2;have e:decide (a.length=b.length∧ ∀i,i<a.length->a.getD i []=b.getD i [])=decide (a=b):=decide_eq_decide.2 (jX ([]:Str)).symm;rw[e]at c;exact c
theorem qFA(a b:List Int)(h:wh)(h1:a.length<=1000000000)(h2:b.length<=1000000000):ACalls Tryz.prog 30 [qx a,qx b] h (.bool (decide (a=b))) h:=by
 have c:=qCg qzc a.length b.length (λj=> .i (a.getD j 0)) (λj=> .i (b.getD j 0)) h (λ_ _ _=>rfl) om om;simp only[At.v,At.i.injEq]at c;have e:decide (a.length=b.length∧ ∀i,i<a.length->a.getD i 0=b.getD i 0)=decide (a=b):=decide_eq_decide.2 (jX (0:Int)).symm;rw[e]at c;exact c
theorem qpW{r s:Rd}:r=s↔r.words=s.words∧r.src=s.src:=by
 cases r;cases s;simp
theorem qGj(r s:Rd)(h:wh)(h1:r.words.length<=1000000000)(h2:s.words.length<=1000000000)(h3:r.src.length<=1000000000)(h4:s.src.length<=1000000000):ACalls Tryz.prog 292 [.agg (rdC r),.agg (rdC s)] h (.bool (decide (r=s))) h:=by
 have c1:=λh=>qC3 r.words s.words h h1 h2
 have c2:=λh=>qFA r.src s.src h h3 h4
 have e:decide (r=s)=(decide (r.words=s.words)&&decide (r.src=s.src)):=by rw[<-Bool.decide_and];exact decide_eq_decide.2 qpW
 rw[e];obtain⟨a,ha⟩:=wg (decide (r.words=s.words))
 obtain⟨b,hb⟩:=wg (decide (r.src=s.src))
 rw[<-ha,<-hb];simp only[<-ha]at c1;simp only[<-hb]at c2;cases a with
 |true=>
  rw[Bool.true_and];refine acO qry ?_;simp (disch:=omega) only[qsB,rdC,go_sem]
  repeat' first|((first|refine cA (c1 _) ?_ ?_|refine cG (λe=>c2 _) ?_ ?_);exact flk;simp (disch:=omega) only[go_sem])|exact wa|with_reducible apply aiA|exact clz|fail
 |false=>
  rw[Bool.false_and];refine acO qry ?_;simp (disch:=omega) only[qsB,rdC,go_sem]
  repeat' first|(refine qj ( .bool false) ?_;simp (disch:=omega) only[go_sem])|(refine cA (c1 _) flk ?_;simp (disch:=omega) only[go_sem])|exact wa|fail
theorem efP(a b:List Rd)(h:wh)(za:qi2 a)(zb:qi2 b):ACalls Tryz.prog 291 [jh a,jh b,.fn (.func 292) [] []] h (.bool (decide (a=b))) h:=by
 have ha:=za.n;have hb:=zb.n;have he:decide (a=b)=decide (a.length=b.length∧ ∀i,i<a.length->a.getD i default=b.getD i default):=decide_eq_decide.2 (jX (default:Rd));obtain⟨R,hR⟩:=wg (decide (a=b))
 rw[<-hR]at he ⊢
 by_cases g:a.length=b.length
 case neg=>
  have k1:((a.length:Int)=b.length)=False:=wl;rw[dqf (λhc=>g hc.1)]at he;rw[he];refine acO qrx ?_;simp (disch:=omega) only[qsA,jh,k1,go_sem]
  repeat' first|exact wa|fail
 have k1:((a.length:Int)=b.length)=True:=wj;refine acO qrx ?_;simp (disch:=omega) only[qsA,jh,k1,go_sem];refine qk (T:=λi:Nat×AObj×AObj=>qP 32 [(1,jh b),(2,.fn (.func 292) [] []),(15,jh a),(16,.int .i64 a.length),(17,.int .i64 i.1)]) (H:=λi=>h++ [i.2.1,i.2.2])
  (inv:=λi=>i.1<=a.length∧qz [i.2.1] 0=true∧qz [i.2.2] 0=true∧ ∀j,j<i.1->a.getD j default=b.getD j default) (m:=λi=>a.length-i.1) (0,.emp 0,.emp 0) ⟨nzl _,rfl,rfl,λj hj=>absurd hj (nnz j)⟩ (Wk.temps ?_) ?_
 ·(simp only[jh,go_sem,qf,qc,qa,qe];try exact we)
 rintro⟨i,O1,O2⟩ ⟨i1,j1,j2,i2⟩ K hK;simp only at i1 j1 j2 i2 hK;have j1': ∀m,qz (O1::m) 0=true:=λ_=>j1
 have j2': ∀m,qz (O2::m) 0=true:=λ_=>j2
 by_cases hi:i<a.length
 ·have k2:((i:Int)<a.length)=True:=wj;have k3:((i:Int)<b.length)=True:=wj;have c1:=λh=>qGj (a.getD i default) (b.getD i default) h (za.wd i) (zb.wd i) (za.sr i) (zb.sr i)
  have hno: ¬a.getD i default=b.getD i default->R=false:=λhx=>by rw[he];exact dqf λhc=>hx (hc.2 i hi)
  have hS:a.getD i default=b.getD i default-> ∀j,j<i+1->a.getD j default=b.getD j default:=λhx j hj=>by
   by_cases e:j=i
   ·subst e;exact hx
   ·exact i2 j om
  obtain⟨r,hr⟩:=wg (a.getD i default)
  obtain⟨s,hs⟩:=wg (b.getD i default)
  have er:=hr.symm;have es:=hs.symm;rw[er,es]at hno hS;simp only[er,es]at c1;unfold rdC at c1
  by_cases g2:r=s
  ·have k4:decide (r=s)=true:=dqt g2;simp only[k4]at c1;simp (disch:=omega) only[jh,rdC,k2,k3,er,es,j1',j2',go_sem]
   repeat' first|(refine qI (c1 _) ?_;simp (disch:=omega) only[go_sem])|with_reducible apply aiA|exact clz|fail
   refine hK _ _ (i+1,_,_) ⟨hi,rfl,rfl,hS g2⟩ (by simp only;omega) (Wk.temps ?_)
   (simp only[jh,go_sem,qf,qc,qa,qe];try exact we)
  ·have k4:decide (r=s)=false:=dqf g2;simp only[k4]at c1;rw[hno g2];simp (disch:=omega) only[jh,rdC,k2,k3,er,es,j1',j2',go_sem]
   repeat' first|(refine qI (c1 _) ?_;simp (disch:=omega) only[go_sem])|exact wa|with_reducible apply aiA|exact clz|fail
 ·have k2:((i:Int)<a.length)=False:=wl;rw[he,dqt ⟨g,λj hj=>i2 j om⟩];simp (disch:=omega) only[jh,k2,go_sem]
  repeat' first|exact wa|fail
theorem qGk(a b:List Rd)(h:wh)(za:qi2 a)(zb:qi2 b):ACalls Tryz.prog 225 [jh a,jh b] h (.bool (decide (a=b))) h:=by
 have c1:=λh=>efP a b h za zb
 refine acO qyD ?_;simp (disch:=omega) only[qwC,go_sem]
 repeat' first|(refine cA (c1 _) flk ?_;simp (disch:=omega) only[go_sem])|exact wc|fail
theorem qGa(r s:Rd)(h:wh)(h1:r.words.length<=1000000000)(h2:s.words.length<=1000000000):ACalls Tryz.prog 143 [.agg (rdC r),.agg (rdC s)] h (.bool (decide (r.words=s.words))) h:=by
 have c1:=λh=>qC3 r.words s.words h h1 h2
 refine acO qyc ?_;simp (disch:=omega) only[qwc,rdC,go_sem]
 repeat' first|(refine cA (c1 _) flk ?_;simp (disch:=omega) only[go_sem])|exact wa|fail
theorem fd1(r y:Rd)(h:wh)(h1:r.words.length<=1000000000)(h2:y.words.length<=1000000000):ACalls Tryz.prog 216 [.agg (rdC y),.ip [.fn (.func 143) [] []],.ip (rdC r)] h (.bool (decide (r.words=y.words))) h:=by
 have c1:=λh=>qGa r y h h1 h2
 unfold rdC at c1;refine acO qyw ?_;simp (disch:=omega) only[qwv,rdC,go_sem]
 repeat' first|(refine qI (c1 _) ?_;simp (disch:=omega) only[go_sem])|exact wa|with_reducible apply aiA|exact clz|fail
theorem fdP(L:List Rd)(r:Rd)(h:wh)(hL:L.length<=1000000000)(h1:r.words.length<=1000000000)(h2: ∀j,(L.getD j default).words.length<=1000000000):ACalls Tryz.prog 142 [jh L,.agg (rdC r),.fn (.func 143) [] []] h (.int .i64 (qbK L r.words)) h:=by
 have c1: ∀k v k2 v2 H,qu k H=some (.mem v 152 (rdC r))->qu k2 H=some (.mem v2 218 [.fn (.func 143) [] []])->
   ACalls Tryz.prog 91 [jh L,.fn (.func 216) [] [.op k2 v2 0,.op k v 0]] H (.int .i64 (qbK L r.words)) H:=λk v k2 v2 H hk hk2=>by
  have hc:=qR hk;have hc2:=qR hk2;unfold jh qbK;refine qeG qzN L.length (λj=>rdC (L.getD j default)) (λj=> .agg (rdC (L.getD j default))) _ [] [.op k2 v2 0,.op k v 0] _ H (λi _=>⟨rfl,by simp[kv,rdC],rfl,rfl,rfl⟩) (λi _=> ?_) om;refine ACalls.borrow ?_ rfl;have e:([AV.agg (rdC (L.getD i default))]++ [AV.op k2 v2 0,AV.op k v 0]).map (rei (λ_=>true) H 8)= [.agg (rdC (L.getD i default)),.ip [.fn (.func 143) [] []],.ip (rdC r)]:=by
   simp only[lca,lna,List.map_cons,List.map_nil,rei_op,if_true,hc,hc2,ipOf_some,List.drop_zero,rei_agg];rfl
  rw[lna,e];exact fd1 r _ _ h1 (h2 i)
 have c2:=c1 h.length 1 (h.length+1) 1 (h++ [.mem 1 152 (rdC r),.mem 1 218 [.fn (.func 143) [] []]]) (by rw[getO_app0];rfl) (by simp only[go_sem]);unfold rdC at c2;refine acO qyb ?_;simp (disch:=omega) only[qwb,rdC,go_sem]
 repeat' first|(refine cA (c2) flk ?_;simp (disch:=omega) only[go_sem])|exact wa|fail
def gnB(sec:Str)(sig:List Str):Bool:=jC (λi=>decide (20<(sig.getD i []).length)) sig.length||decide (20<sec.length)
theorem gnP(sec:Str)(sig:List Str)(h:wh)(hn:sig.length<=9223372036854775807):ACalls Tryz.prog 59 [.str sec,strs sig] h (.bool (gnB sec sig)) h:=by
 obtain⟨R,hR⟩:=wg (gnB sec sig)
 rw[<-hR];unfold gnB at hR;refine acO qDf ?_;simp (disch:=omega) only[qEF,strs,go_sem];refine qk (T:=λi:Nat=>qP 21 [(0,.str sec),(1,strs sig),(5,.int .i64 i)]) (H:=λ_=>h) (inv:=λi=>i<=sig.length∧ ∀j,j<i->(λi=>decide (20<(sig.getD i []).length)) j=false) (m:=λi=>sig.length-i) 0 ⟨nzl _,λj hj=>absurd hj (nnz j)⟩ (Wk.temps ?_) ?_
 ·(simp only[strs,go_sem,qf,qc,qa,qe];try exact we)
 rintro i ⟨i1,i2⟩ K hK
 by_cases hi:i<sig.length
 ·have k1:((i:Int)<sig.length)=True:=wj
  by_cases g:20<(sig.getD i []).length
  ·have hV:R=true:=by rw[hR,qN.2 ⟨i,hi,dqt g⟩];rfl
   obtain⟨s,hs⟩:=wg (sig.getD i [])
   have es:=hs.symm;rw[es]at g;have k2:((20:Int)<s.length)=True:=wj;rw[hV];simp (disch:=omega) only[strs,k1,k2,es,go_sem]
   repeat' first|exact wc|with_reducible apply aiA|exact clz|fail
  ·have i3:=jD i2 (dqf g);obtain⟨s,hs⟩:=wg (sig.getD i [])
   have es:=hs.symm;rw[es]at g;have k2:((20:Int)<s.length)=False:=wl;simp (disch:=omega) only[strs,k1,k2,es,go_sem]
   repeat' first|with_reducible apply aiA|exact clz|fail
   refine hK _ _ (i+1) ⟨hi,i3⟩ om (Wk.temps ?_)
   (simp only[strs,go_sem,qf,qc,qa,qe];try exact we)
 have k1:((i:Int)<sig.length)=False:=wl;rw[qp.2 (λj hj=>i2 j om),Bool.false_or]at hR;have e1:decide ((20:Int)<sec.length)=decide (20<sec.length):=decide_eq_decide.2 om;rw[hR,<-e1];simp (disch:=omega) only[strs,k1,go_sem]
 repeat' first|exact wc|fail
def qby(t:Tk):Bool:=decide (12<t.text.length)||(decide (12<t.norm.length)||(decide (20<t.page.length)||decide (20<t.name.length)))
def qcJ(i:Nat)(r:List Tk):Bool:=decide (6<r.length)||((decide (4<=i)&&decide (1<r.length))||jC (λk=>qby (r.getD k default)) r.length)
def prN(L:List (List Tk)):Nat->Nat
 |0=>1
 |i+1=>if i<4 then prN L i*((L.getD i []).length+1) else prN L i
def gtB(L:List (List Tk)):Bool:=jC (λi=>qcJ i (L.getD i [])) L.length||(decide (400<prN L L.length)||((decide (6<L.length)&&decide (L.length<=32))||decide (34<L.length)))
theorem qAF{L:List (List Tk)}: ∀ {n:Nat},(∀i,i<n->(L.getD i []).length<=6)->prN L n<=7^min n 4:=by
 intro n
 induction n with
 |zero=>intro _;exact nlr _
 |succ n ih=>
  intro h;have h1:=ih λi hi=>h i om
  have h2:=h n om;unfold prN;split
  ·rename_i g;rw[show min n 4=n by omega]at h1;rw[show min (n+1) 4=n+1 by omega,Nat.pow_succ];exact Nat.mul_le_mul h1 om
  ·rename_i g;rw[show min n 4=4 by omega]at h1;rw[show min (n+1) 4=4 by omega];exact h1
theorem gtP(L:List (List Tk))(h:wh)(hn:L.length<=9223372036854775807):ACalls Tryz.prog 58 [qn L] h (.bool (gtB L)) h:=by
 obtain⟨R,hR⟩:=wg (gtB L)
 rw[<-hR];unfold gtB at hR;refine acO qDe ?_;simp (disch:=omega) only[qEE,qn,go_sem];refine qk (T:=λi:Nat×AObj=>qP 97 [(0,qn L),(3,.int .i64 (prN L i.1:Int)),(4,.int .i64 i.1)]) (H:=λi=>h++ [i.2]) (inv:=λi=>i.1<=L.length∧qz [i.2] 0=true∧ ∀j,j<i.1->(λi=>qcJ i (L.getD i [])) j=false) (m:=λi=>L.length-i.1) (0,.emp 0) ⟨nzl _,rfl,λj hj=>absurd hj (nnz j)⟩ (Wk.temps ?_) ?_
 ·(simp only[qn,prN,go_sem,qf,qc,qa,qe];try exact we)
 rintro⟨i,O⟩ ⟨i1,i2,i3⟩ K hK;simp only at i1 i2 i3 hK;have i2': ∀m,qz (O::m) 0=true:=λ_=>i2
 have h6: ∀j,j<i->(L.getD j []).length<=6:=λj hj=>by
  have:=i3 j hj
  unfold qcJ at this;simp only[Bool.or_eq_false_iff,decide_eq_false_iff_not]at this;omega
 have hp:=qAF h6;have hp2:prN L i<=2401:=by
  have:7^min i 4<=7^4:=Nat.pow_le_pow_right om (Nat.min_le_right _ _)
  have h3:(7:Nat)^4=2401:=rfl;omega
 have hst:prN L (i+1)=if i<4 then prN L i*((L.getD i []).length+1) else prN L i:=rfl
 obtain⟨q,hq⟩:=wg (prN L i)
 have eq:=hq.symm;rw[eq]at hp2 hst
 by_cases hi:i<L.length
 ·have k1:((i:Int)<L.length)=True:=wj;have hit:qcJ i (L.getD i [])=true->R=true:=λhc=>by rw[hR,qN.2 ⟨i,hi,hc⟩];rfl
  have i4:=λhc=>jD (p:=λi=>qcJ i (L.getD i [])) i3 hc
  obtain⟨r,hr⟩:=wg (L.getD i [])
  have er:=hr.symm;rw[er]at hst hit;simp only[er]at i4;have hB:qcJ i r=(decide (6<r.length)||((decide (4<=i)&&decide (1<r.length))||jC (λk=>qby (r.getD k default)) r.length)):=rfl
  by_cases g1:6<r.length
  ·have k2:((6:Int)<r.length)=True:=wj;rw[hit (by rw[hB,dqt g1];rfl)];simp (disch:=omega) only[qn,zy,k1,k2,er,eq,go_sem]
   repeat' first|exact wa|(with_reducible first|intro _|apply aiA)|exact clz|fail
  have k2:((6:Int)<r.length)=False:=wl;rw[dqf g1,Bool.false_or]at hB;have hq':q*(r.length+1)<=2401*7:=Nat.mul_le_mul hp2 om;have hmul:(q:Int)*((r.length:Int)+1)=((q*(r.length+1):Nat):Int):=by push_cast;rfl
  have m2:(((q*(r.length+1):Nat):Int)<=9223372036854775807)=True:=wj;have m3:(-9223372036854775808<=((q*(r.length+1):Nat):Int))=True:=wj
  by_cases gg:4<=i∧1<r.length
  ·have k3:((4:Int)<=i)=True:=wj;have k5:((1:Int)<r.length)=True:=wj;rw[hit (by rw[hB,dqt gg.1,dqt gg.2];rfl)];simp (disch:=omega) only[qn,zy,k1,k2,k3,k5,er,eq,go_sem]
   repeat' first|exact wa|with_reducible apply aiA|exact clz|fail
  have hB':qcJ i r=jC (λk=>qby (r.getD k default)) r.length:=by
   rw[hB]
   have:(decide (4<=i)&&decide (1<r.length))=false:=by
    rw[<-Bool.decide_and];exact dqf gg
   rw[this,Bool.false_or]
  rcases Nat.lt_or_ge i 4 with gi|gi
  ·have k3:((4:Int)<=i)=False:=wl;have k4:((i:Int)<4)=True:=wj;rw[ipo gi]at hst;simp (disch:=omega) only[qn,zy,k1,k2,k3,k4,er,eq,hmul,go_sem]
   repeat' first|(apply qb;exact rvk;simp only[go_sem];apply qd)|(with_reducible first|intro _|apply aiA)|exact clz|fail
   refine qk (T:=λk:Nat×AObj=>qP 97 [(0,qn L),(3,.int .i64 ((q*(r.length+1):Nat):Int)),(4,.int .i64 i),(5,.int .i64 k.1)]) (H:=λk=>h++ [k.2]) (inv:=λk=>k.1<=r.length∧qz [k.2] 0=true∧ ∀j,j<k.1->(λk=>qby (r.getD k default)) j=false) (m:=λk=>r.length-k.1) (0,O) ⟨nzl _,i2,λj hj=>absurd hj (nnz j)⟩ (Wk.temps ?_) ?_
   ·(simp only[qn,go_sem,qf,qc,qa,qe];try exact we)
   rintro⟨k,O'⟩ ⟨u1,u2,u3⟩ K2 hK2;simp only at u1 u2 u3 hK2;have u2': ∀m,qz (O'::m) 0=true:=λ_=>u2
   by_cases hk:k<r.length
   ·have t1:((k:Int)<r.length)=True:=wj;have hbit:qby (r.getD k default)=true->R=true:=λhc=>hit (by rw[hB',qN];exact⟨k,hk,hc⟩)
    have u4:=λhc=>jD (p:=λk=>qby (r.getD k default)) u3 hc
    obtain⟨t,ht⟩:=wg (r.getD k default)
    have et:=ht.symm;rw[et]at hbit;simp only[et]at u4;have hT:qby t=(decide (12<t.text.length)||(decide (12<t.norm.length)||(decide (20<t.page.length)||decide (20<t.name.length)))):=rfl
    by_cases gA:12<t.text.length
    ·have qA:((12:Int)<t.text.length)=True:=wj;rw[hbit (by rw[hT,dqt gA];simp)];simp (disch:=omega) only[qn,zy,tkC,k1,t1,er,et,u2',qA,go_sem]
     repeat' first|exact wa|with_reducible apply aiA|exact clz|fail
    have qA:((12:Int)<t.text.length)=False:=wl
    by_cases gB:12<t.norm.length
    ·have qB:((12:Int)<t.norm.length)=True:=wj;rw[hbit (by rw[hT,dqt gB];simp)];simp (disch:=omega) only[qn,zy,tkC,k1,t1,er,et,u2',qA,qB,go_sem]
     repeat' first|exact wa|with_reducible apply aiA|exact clz|fail
    have qB:((12:Int)<t.norm.length)=False:=wl
    by_cases gC:20<t.page.length
    ·have qC:((20:Int)<t.page.length)=True:=wj;rw[hbit (by rw[hT,dqt gC];simp)];simp (disch:=omega) only[qn,zy,tkC,k1,t1,er,et,u2',qA,qB,qC,go_sem]
     repeat' first|exact wa|with_reducible apply aiA|exact clz|fail
    have qC:((20:Int)<t.page.length)=False:=wl
    by_cases gD:20<t.name.length
    ·have qD:((20:Int)<t.name.length)=True:=wj;rw[hbit (by rw[hT,dqt gD];simp)];simp (disch:=omega) only[qn,zy,tkC,k1,t1,er,et,u2',qA,qB,qC,qD,go_sem]
     repeat' first|exact wa|with_reducible apply aiA|exact clz|fail
    have qD:((20:Int)<t.name.length)=False:=wl;simp (disch:=omega) only[qn,zy,tkC,k1,t1,er,et,u2',qA,qB,qC,qD,go_sem]
    repeat' first|with_reducible apply aiA|exact clz|fail
    refine hK2 _ _ (k+1,_) ⟨hk,rfl,u4 (by rw[hT,dqf gA,dqf gB,dqf gC,dqf gD];rfl)⟩ (by simp only;omega) (Wk.temps ?_)
    (simp only[qn,zy,tkC,go_sem,qf,qc,qa,qe];try exact we)
   ·have t1:((k:Int)<r.length)=False:=wl;have hz:qcJ i r=false:=by rw[hB',qp];exact λj hj=>u3 j om
    simp (disch:=omega) only[qn,zy,t1,er,go_sem]
    repeat' first|with_reducible apply aiA|exact clz|fail
    refine hK _ _ (i+1,O') ⟨hi,u2,i4 hz⟩ (by simp only;omega) ?_;simp only[hst];refine Wk.temps ?_
    (simp only[qn,go_sem,qf,qc,qa,qe];try exact we)
  ·have k3:((4:Int)<=i)=True:=wj;have k4:((i:Int)<4)=False:=wl;have k5:((1:Int)<r.length)=False:=wl;rw[ine om]at hst;simp (disch:=omega) only[qn,zy,k1,k2,k3,k4,k5,er,eq,hmul,go_sem]
   repeat' first|with_reducible apply aiA|exact clz|fail
   refine qk (T:=λk:Nat×AObj=>qP 97 [(0,qn L),(3,.int .i64 (q:Int)),(4,.int .i64 i),(5,.int .i64 k.1)]) (H:=λk=>h++ [k.2]) (inv:=λk=>k.1<=r.length∧qz [k.2] 0=true∧ ∀j,j<k.1->(λk=>qby (r.getD k default)) j=false) (m:=λk=>r.length-k.1) (0,O) ⟨nzl _,i2,λj hj=>absurd hj (nnz j)⟩ (Wk.temps ?_) ?_
   ·(simp only[qn,go_sem,qf,qc,qa,qe];try exact we)
   rintro⟨k,O'⟩ ⟨u1,u2,u3⟩ K2 hK2;simp only at u1 u2 u3 hK2;have u2': ∀m,qz (O'::m) 0=true:=λ_=>u2
   by_cases hk:k<r.length
   ·have t1:((k:Int)<r.length)=True:=wj;have hbit:qby (r.getD k default)=true->R=true:=λhc=>hit (by rw[hB',qN];exact⟨k,hk,hc⟩)
    have u4:=λhc=>jD (p:=λk=>qby (r.getD k default)) u3 hc
    obtain⟨t,ht⟩:=wg (r.getD k default)
    have et:=ht.symm;rw[et]at hbit;simp only[et]at u4;have hT:qby t=(decide (12<t.text.length)||(decide (12<t.norm.length)||(decide (20<t.page.length)||decide (20<t.name.length)))):=rfl
    by_cases gA:12<t.text.length
    ·have qA:((12:Int)<t.text.length)=True:=wj;rw[hbit (by rw[hT,dqt gA];simp)];simp (disch:=omega) only[qn,zy,tkC,k1,t1,er,et,u2',qA,go_sem]
     repeat' first|exact wa|with_reducible apply aiA|exact clz|fail
    have qA:((12:Int)<t.text.length)=False:=wl
    by_cases gB:12<t.norm.length
    ·have qB:((12:Int)<t.norm.length)=True:=wj;rw[hbit (by rw[hT,dqt gB];simp)];simp (disch:=omega) only[qn,zy,tkC,k1,t1,er,et,u2',qA,qB,go_sem]
     repeat' first|exact wa|with_reducible apply aiA|exact clz|fail
    have qB:((12:Int)<t.norm.length)=False:=wl
    by_cases gC:20<t.page.length
    ·have qC:((20:Int)<t.page.length)=True:=wj;rw[hbit (by rw[hT,dqt gC];simp)];simp (disch:=omega) only[qn,zy,tkC,k1,t1,er,et,u2',qA,qB,qC,go_sem]
     repeat' first|exact wa|with_reducible apply aiA|exact clz|fail
    have qC:((20:Int)<t.page.length)=False:=wl
    by_cases gD:20<t.name.length
    ·have qD:((20:Int)<t.name.length)=True:=wj;rw[hbit (by rw[hT,dqt gD];simp)];simp (disch:=omega) only[qn,zy,tkC,k1,t1,er,et,u2',qA,qB,qC,qD,go_sem]
     repeat' first|exact wa|with_reducible apply aiA|exact clz|fail
    have qD:((20:Int)<t.name.length)=False:=wl;simp (disch:=omega) only[qn,zy,tkC,k1,t1,er,et,u2',qA,qB,qC,qD,go_sem]
    repeat' first|with_reducible apply aiA|exact clz|fail
    refine hK2 _ _ (k+1,_) ⟨hk,rfl,u4 (by rw[hT,dqf gA,dqf gB,dqf gC,dqf gD];rfl)⟩ (by simp only;omega) (Wk.temps ?_)
    (simp only[qn,zy,tkC,go_sem,qf,qc,qa,qe];try exact we)
   ·have t1:((k:Int)<r.length)=False:=wl;have hz:qcJ i r=false:=by rw[hB',qp];exact λj hj=>u3 j om
    simp (disch:=omega) only[qn,zy,t1,er,go_sem]
    repeat' first|with_reducible apply aiA|exact clz|fail
    refine hK _ _ (i+1,O') ⟨hi,u2,i4 hz⟩ (by simp only;omega) ?_;simp only[hst];refine Wk.temps ?_
    (simp only[qn,go_sem,qf,qc,qa,qe];try exact we)
 have k1:((i:Int)<L.length)=False:=wl;obtain rfl:i=L.length:=by omega
 rw[qp.2 (λj hj=>i3 j hj),Bool.false_or,<-hq]at hR
 by_cases g1:400<q
 ·have k2:((400:Int)<q)=True:=wj;rw[hR,dqt g1,Bool.true_or];simp (disch:=omega) only[qn,k1,k2,eq,go_sem]
  repeat' first|exact wa|fail
 have k2:((400:Int)<q)=False:=wl;rw[dqf g1,Bool.false_or]at hR
 by_cases g2:6<L.length
 ·have k3:((6:Int)<L.length)=True:=wj
  by_cases g3:L.length<=32
  ·have k4:((L.length:Int)<=32)=True:=wj;rw[hR,dqt g2,dqt g3];simp (disch:=omega) only[qn,k1,k2,k3,k4,eq,go_sem]
   repeat' first|exact wa|fail
  have k4:((L.length:Int)<=32)=False:=wl;have e1:decide ((34:Int)<L.length)=decide (34<L.length):=decide_eq_decide.2 om;rw[hR,dqt g2,dqf g3,<-e1];simp (disch:=omega) only[qn,k1,k2,k3,k4,eq,go_sem]
  repeat' first|exact wa|fail
 have k3:((6:Int)<L.length)=False:=wl;have e1:decide ((34:Int)<L.length)=decide (34<L.length):=decide_eq_decide.2 om;rw[hR,dqf g2,<-e1];simp (disch:=omega) only[qn,k1,k2,k3,eq,go_sem]
 repeat' first|exact wa|fail
structure CoB (x:Co):Prop where
 sg:x.sig.length<=9223372036854775807
 tk:x.tok.length<=9223372036854775807
 cl:x.col.length<=9223372036854775807
def qtw(x:Co):Bool:=jC (λi=>decide (36<(x.col.getD i []).length)) x.col.length||(gtB x.tok||(decide (24<x.col.length)||(decide (36<x.sig.length)||gnB x.sec x.sig)))
theorem qFH(x:Co)(h:wh)(hb:CoB x):ACalls Tryz.prog 9 [.agg (coC x)] h (.bool (qtw x)) h:=by
 have c1:=λh=>gtP x.tok h hb.tk
 have c2:=λh=>gnP x.sec x.sig h hb.sg
 have hc:=hb.cl;obtain⟨R,hR⟩:=wg (qtw x)
 rw[<-hR];unfold qtw at hR;unfold qn at c1;unfold strs at c2;refine acO qFG ?_;simp (disch:=omega) only[c9s,coC,qv,go_sem];refine qk (T:=λi:Nat=>qP 40 [(1,.op h.length 1 0),(3,.int .i64 i)]) (H:=λ_=>h++ [.mem 1 26 (coC x)]) (inv:=λi=>i<=x.col.length∧ ∀j,j<i->(λi=>decide (36<(x.col.getD i []).length)) j=false) (m:=λi=>x.col.length-i) 0 ⟨nzl _,λj hj=>absurd hj (nnz j)⟩ (Wk.temps ?_) ?_
 ·(simp only[go_sem,qf,qc,qa,qe];try exact we)
 rintro i ⟨i1,i2⟩ K hK
 by_cases hi:i<x.col.length
 ·have k1:((i:Int)<x.col.length)=True:=wj
  by_cases g:36<(x.col.getD i []).length
  ·have hV:R=true:=by rw[hR,qN.2 ⟨i,hi,dqt g⟩];rfl
   obtain⟨s,hs⟩:=wg (x.col.getD i [])
   have es:=hs.symm;rw[es]at g;have k2:((36:Int)<s.length)=True:=wj;rw[hV];simp (disch:=omega) only[coC,qv,qx,k1,k2,es,go_sem]
   repeat' first|exact wa|with_reducible apply aiA|exact clz|fail
  ·have i3:=jD i2 (dqf g);obtain⟨s,hs⟩:=wg (x.col.getD i [])
   have es:=hs.symm;rw[es]at g;have k2:((36:Int)<s.length)=False:=wl;simp (disch:=omega) only[coC,qv,qx,k1,k2,es,go_sem]
   repeat' first|with_reducible apply aiA|exact clz|fail
   refine hK _ _ (i+1) ⟨hi,i3⟩ om (Wk.temps ?_)
   (simp only[go_sem,qf,qc,qa,qe];try exact we)
 have k1:((i:Int)<x.col.length)=False:=wl;rw[qp.2 (λj hj=>i2 j om),Bool.false_or]at hR;cases gA:gtB x.tok with
 |true=>
  rw[gA]at hR c1;rw[hR,Bool.true_or];simp (disch:=omega) only[coC,qv,k1,qn,go_sem]
  repeat' first|(refine qj ( .bool false) ?_;simp (disch:=omega) only[go_sem])|(refine cA (c1 _) flk ?_;simp (disch:=omega) only[go_sem])|exact wa|with_reducible apply aiA|exact clz|fail
 |false=>
 rw[gA]at hR c1;rw[Bool.false_or]at hR
 by_cases g2:24<x.col.length
 ·have k2:((24:Int)<x.col.length)=True:=wj;rw[hR,dqt g2,Bool.true_or];simp (disch:=omega) only[coC,qv,k1,qn,go_sem]
  repeat' first|(refine qj ( .bool false) ?_;simp (disch:=omega) only[go_sem])|(refine cA (c1 _) flk ?_;simp (disch:=omega) only[k2,go_sem])|exact wa|with_reducible apply aiA|exact clz|fail
 have k2:((24:Int)<x.col.length)=False:=wl;rw[dqf g2,Bool.false_or]at hR
 by_cases g3:36<x.sig.length
 ·have k3:((36:Int)<x.sig.length)=True:=wj;rw[hR,dqt g3,Bool.true_or];simp (disch:=omega) only[coC,qv,k1,qn,strs,go_sem]
  repeat' first|(refine qj ( .bool false) ?_;simp (disch:=omega) only[go_sem])|(refine cA (c1 _) flk ?_;simp (disch:=omega) only[k2,k3,go_sem])|exact wa|with_reducible apply aiA|exact clz|fail
 have k3:((36:Int)<x.sig.length)=False:=wl;rw[dqf g3,Bool.false_or]at hR;rw[hR];simp (disch:=omega) only[coC,qv,k1,qn,strs,go_sem]
 repeat' first|((first|refine cA (c1 _) ?_ ?_|refine cG (λe=>c2 _) ?_ ?_);exact flk;simp (disch:=omega) only[k2,k3,go_sem])|exact wa|with_reducible apply aiA|exact clz|fail
def guR(u:Un)(k:Nat):Bool:=decide (8<(u.rds.getD k default).src.length)||gwB (u.rds.getD k default).words 8
def guB(u:Un):Bool:=decide (6<u.rds.length)||jC (guR u) u.rds.length
def qtx(l:List Un):Bool:=jC (λi=>guB (l.getD i default)) l.length||decide (12<l.length)
structure UnB (l:List Un):Prop where
 n:l.length<=9223372036854775807
 rd: ∀i,(l.getD i default).rds.length<=9223372036854775807
 wd: ∀i j,((l.getD i default).rds.getD j default).words.length<=9223372036854775807
theorem qFI(l:List Un)(h:wh)(hb:UnB l):ACalls Tryz.prog 82 [qZ l] h (.bool (qtx l)) h:=by
 have hn:=hb.n;obtain⟨R,hR⟩:=wg (qtx l)
 rw[<-hR];unfold qtx at hR;refine acO qDl ?_;simp (disch:=omega) only[qEL,qZ,go_sem];refine qk (T:=λi:Nat=>qP 54 [(0,qZ l),(3,.int .i64 i)]) (H:=λ_=>h) (inv:=λi=>i<=l.length∧ ∀j,j<i->(λi=>guB (l.getD i default)) j=false) (m:=λi=>l.length-i) 0 ⟨nzl _,λj hj=>absurd hj (nnz j)⟩ (Wk.temps ?_) ?_
 ·(simp only[qZ,go_sem,qf,qc,qa,qe];try exact we)
 rintro i ⟨i1,i2⟩ K hK
 by_cases hi:i<l.length
 ·have k1:((i:Int)<l.length)=True:=wj;have hit:guB (l.getD i default)=true->R=true:=λhc=>by rw[hR,qN.2 ⟨i,hi,hc⟩];rfl
  have i3:=λhc=>jD (p:=λi=>guB (l.getD i default)) i2 hc
  have hrd:=hb.rd i;have hwd:=hb.wd i;obtain⟨u,hu⟩:=wg (l.getD i default)
  have eu:=hu.symm;rw[eu]at hit hrd;simp only[eu]at i3 hwd;have hB:guB u=(decide (6<u.rds.length)||jC (guR u) u.rds.length):=rfl
  by_cases g1:6<u.rds.length
  ·have k2:((6:Int)<u.rds.length)=True:=wj;rw[hit (by rw[hB,dqt g1];rfl)];simp (disch:=omega) only[qZ,unC,jh,k1,k2,eu,go_sem]
   repeat' first|exact wc|with_reducible apply aiA|exact clz|fail
  have k2:((6:Int)<u.rds.length)=False:=wl;rw[dqf g1,Bool.false_or]at hB;simp (disch:=omega) only[qZ,unC,jh,k1,k2,eu,go_sem]
  repeat' first|with_reducible apply aiA|exact clz|fail
  refine qk (T:=λk:Nat=>qP 54 [(0,qZ l),(3,.int .i64 i),(4,.int .i64 k)]) (H:=λ_=>h) (inv:=λk=>k<=u.rds.length∧ ∀j,j<k->guR u j=false) (m:=λk=>u.rds.length-k) 0 ⟨nzl _,λj hj=>absurd hj (nnz j)⟩ (Wk.temps ?_) ?_
  ·(simp only[qZ,go_sem,qf,qc,qa,qe];try exact we)
  rintro k ⟨u1,u2⟩ K2 hK2
  by_cases hk:k<u.rds.length
  ·have t1:((k:Int)<u.rds.length)=True:=wj;have hkit:guR u k=true->R=true:=λhc=>hit (by rw[hB,qN];exact⟨k,hk,hc⟩)
   have u3:=λhc=>jD (p:=guR u) u2 hc
   have hG:guR u k=(decide (8<(u.rds.getD k default).src.length)||gwB (u.rds.getD k default).words 8):=rfl;have c1:=λh=>gwP (u.rds.getD k default).words 8 h (hwd k)
   obtain⟨r,hr⟩:=wg (u.rds.getD k default)
   have er:=hr.symm;simp only[er]at hG c1;unfold strs at c1;have z8:((8:Nat):Int)=8:=rfl;simp only[z8]at c1
   by_cases g2:8<r.src.length
   ·have t2:((8:Int)<r.src.length)=True:=wj;rw[hkit (by rw[hG,dqt g2];rfl)];simp (disch:=omega) only[qZ,unC,jh,rdC,qx,t1,eu,er,k1,t2,go_sem]
    repeat' first|(refine qj ( .bool false) ?_;simp (disch:=omega) only[go_sem])|exact wc|with_reducible apply aiA|exact clz|fail
   have t2:((8:Int)<r.src.length)=False:=wl;rw[dqf g2,Bool.false_or]at hG;cases g3:gwB r.words 8 with
   |true=>
    rw[g3]at hG c1;rw[hkit hG];simp (disch:=omega) only[qZ,unC,jh,rdC,qx,t1,eu,er,strs,k1,t2,go_sem]
    repeat' first|(refine cG (λe=>c1 _) flk ?_;simp (disch:=omega) only[go_sem])|exact wc|with_reducible apply aiA|exact clz|fail
   |false=>
    rw[g3]at hG c1;simp (disch:=omega) only[qZ,unC,jh,rdC,qx,t1,eu,er,strs,k1,t2,go_sem]
    repeat' first|(refine cG (λe=>c1 _) flk ?_;simp (disch:=omega) only[go_sem])|with_reducible apply aiA|exact clz|fail
    refine hK2 _ _ (k+1) ⟨hk,u3 hG⟩ om (Wk.temps ?_)
    (simp only[qZ,go_sem,qf,qc,qa,qe];try exact we)
  ·have t1:((k:Int)<u.rds.length)=False:=wl;have hz:guB u=false:=by rw[hB,qp];exact λj hj=>u2 j om
   simp (disch:=omega) only[qZ,unC,jh,k1,t1,eu,go_sem]
   repeat' first|with_reducible apply aiA|exact clz|fail
   refine hK _ _ (i+1) ⟨hi,i3 hz⟩ om (Wk.temps ?_)
   (simp only[qZ,go_sem,qf,qc,qa,qe];try exact we)
 have k1:((i:Int)<l.length)=False:=wl;rw[qp.2 (λj hj=>i2 j om),Bool.false_or]at hR;have e1:decide ((12:Int)<l.length)=decide (12<l.length):=decide_eq_decide.2 om;rw[hR,<-e1];simp (disch:=omega) only[qZ,k1,go_sem]
 repeat' first|exact wc|fail
end RC
end
section
open Go Go.Proofs AF
def qfJ:List Nat:= []
def qEA:C:=
 (vU [ON 2 (.nilo 0 1 9) []] (vU [ON 3 (.nilo 1 1 9) []] ((vU [MV 6 0,O1 7 .len 6,vO 8 0] (C.block 0 (vU [BI 9 .lss 8 7] ((vW 9 0).seq ((C.block 1 (vU [O2 10 (.idxA 7) 6 8,O1 11
 (.load (some 7)) 10,⟨some 5,none,.alloc 2 133 [.str [],i6 0,i6 0,i6 0,.bool false,.bool false,.str []],[]⟩,ST 7 5 11] (vY [MV 12 3,vN 13 0 5,LD 14 13,⟨some 15,none,.bslc 3 1 1
 9 [.str []] [(0,1)],[.t 14]⟩,O2 16 (.app 4 1 9 16) 12 15,MV 3 16]))).seq (vY [vP 17 .add 8 1,MV 8 17])))).loop)).seq (vX [MV 18 3,MV 2 18]))))
theorem qDa:qG Tryz.prog 19 19 5 [RV.tmp 2] qEA:=fi Tryz.f19 [2,3,5,15,16] qfJ []
def qCd:C:=
 (vU [O1 2 (.box 0 26) 0,vO 4 0] ((vU [O1 5 (.load (some 4)) 2,O1 6 (.call 47 true) 5,vP 7 .neq 6 0] (vV 7 (vX [vO 4 1]))).seq ((vU [O1 8 (.load (some 4)) 2,MV 9 1,O2 10 (.call
 74 true) 8 9,vP 11 .neq 10 0] (vV 11 (vX [vO 4 20]))).seq (vX [vO 4 0]))))
theorem qtq:qG Tryz.prog 66 12 1 [RV.tmp 4] qCd:=fi Tryz.f66 [2] qfJ []
def qEQ:C:=
 (vU [ON 4 (.nilo 0 1 9) []] (vU [ON 5 (.nilo 1 1 9) []] ((vU [MV 8 0,O1 9 .len 8,vO 10 0] (C.block 0 (vU [BI 11 .lss 10 9] ((vW 11 0).seq ((C.block 1 (vU [O2 12 (.idxA 7) 8
 10,O1 13 (.load (some 7)) 12,⟨some 7,none,.alloc 2 133 [.str [],i6 0,i6 0,i6 0,.bool false,.bool false,.str []],[]⟩,ST 7 7 13] (vU [vN 14 2 7,LD 15 14,MV 16 1,BI 17 .eql 15 16]
 (vV 17 (vY [MV 18 5,vN 19 0 7,LD 20 19,⟨some 21,none,.bslc 3 1 1 9 [.str []] [(0,1)],[.t 20]⟩,O2 22 (.app 4 1 9 16) 18 21,MV 5 22]))))).seq (vY [vP 23 .add 10 1,MV 10
 23])))).loop)).seq (vX [MV 24 5,MV 4 24]))))
theorem qDq:qG Tryz.prog 90 25 5 [RV.tmp 4] qEQ:=fi Tryz.f90 [4,5,7,21,22] qfJ []
end
section
open Go Go.Proofs AF HY LN
namespace RC
def qsW(L:List (List Str)):AV:= .sl L.length λi=> [strs (L.getD i [])]
def qsl(L:List Bool):AV:= .sl L.length λi=> [.bool (L.getD i false)]
theorem flag_clsV(L:List (List Str)):(qsW L).flag=true:=rfl
theorem strip_clsV(L:List (List Str)):(qsW L).strip=qsW L:=rfl
theorem flag_bolV(L:List Bool):(qsl L).flag=true:=rfl
theorem strip_bolV(L:List Bool):(qsl L).strip=qsl L:=rfl
section
variable {fz : Nat -> Bool} {h : wh} {n : Nat}
theorem rei_clsV(L:List (List Str)):rei fz h (n+1) (qsW L)=qsW L:=rfl
theorem rei_bolV(L:List Bool):rei fz h (n+1) (qsl L)=qsl L:=rfl
theorem frz_clsV(L:List (List Str)):frz fz h (n+1) (qsW L)=qsW L:=rfl
theorem frz_bolV(L:List Bool):frz fz h (n+1) (qsl L)=qsl L:=rfl
end
attribute [go_sem] flag_clsV strip_clsV flag_bolV strip_bolV rei_clsV rei_bolV frz_clsV frz_bolV
theorem jH{α:Type}{d:α}(L:List α)(P:α->Prop)(hd:P d)(h: ∀i,i<L.length->P (L.getD i d)): ∀i,P (L.getD i d):=by
 intro i
 by_cases hi:i<L.length
 ·exact h i hi
 ·rw[gdqA,List.getElem?_eq_none om];exact hd
theorem qrG{x:Co}(h:qtw x=false):qbd x∧x.col.length<=24∧x.sig.length<=36:=by
 unfold qtw at h;rw[Bool.or_eq_false_iff,Bool.or_eq_false_iff,Bool.or_eq_false_iff,Bool.or_eq_false_iff,qp,decide_eq_false_iff_not,decide_eq_false_iff_not]at h;obtain⟨h1,h2,h3,h4,h5⟩:=h;unfold gtB at h2;rw[Bool.or_eq_false_iff,qp,Bool.or_eq_false_iff,Bool.or_eq_false_iff,decide_eq_false_iff_not,decide_eq_false_iff_not]at h2;obtain⟨t1,t2,t3,t4⟩:=h2;unfold gnB at h5;rw[Bool.or_eq_false_iff,qp,decide_eq_false_iff_not]at h5;obtain⟨n1,n2⟩:=h5;have hrow: ∀i,i<x.tok.length->(x.tok.getD i []).length<=6∧ ∀j,j<(x.tok.getD i []).length->qby ((x.tok.getD i []).getD j default)=false:=λi hi=>by
  have:=t1 i hi
  unfold qcJ at this;rw[Bool.or_eq_false_iff,Bool.or_eq_false_iff,decide_eq_false_iff_not,qp]at this;exact⟨om,this.2.2⟩
 have hd0:qq2 (default:Tk):=⟨by decide,by decide,by decide,by decide⟩
 refine⟨⟨om,om,?_,om,?_,?_,om,?_⟩,om,om⟩
 ·exact jH x.sig (λs=>s.length<=1000000000) (by decide) λi hi=>by
   have:=of_decide_eq_false (n1 i hi)
   omega
 ·exact jH x.tok (λs=>s.length<=1000000000) (by decide) λi hi=>by have:=(hrow i hi).1;omega
 ·exact jH x.tok (λs=> ∀j,qq2 (s.getD j default)) (λj=>by simpa using hd0) λi hi=>jH _ qq2 hd0 λj hj=>by
   have:=(hrow i hi).2 j hj
   unfold qby at this;simp only[Bool.or_eq_false_iff,decide_eq_false_iff_not]at this;exact⟨om,om,om,om⟩
 ·exact jH x.col (λs=>s.length<=1000000000) (by decide) λi hi=>by
   have:=of_decide_eq_false (h1 i hi)
   omega
theorem qrH{l:List Un}(h:qtx l=false):qcS l∧l.length<=12:=by
 unfold qtx at h;rw[Bool.or_eq_false_iff,qp,decide_eq_false_iff_not]at h;obtain⟨h1,h2⟩:=h;have hu: ∀i,i<l.length->(l.getD i default).rds.length<=6∧ ∀j,j<(l.getD i default).rds.length->((l.getD i default).rds.getD j default).src.length<=8∧((l.getD i default).rds.getD j default).words.length<=8:=λi hi=>by
  have:=h1 i hi
  unfold guB at this;rw[Bool.or_eq_false_iff,decide_eq_false_iff_not,qp]at this;refine⟨om,λj hj=> ?_⟩;have h3:=this.2 j hj;unfold guR at h3;rw[Bool.or_eq_false_iff,decide_eq_false_iff_not]at h3
  have:=(qAb h3.2).1
  exact⟨om,om⟩
 refine⟨⟨om,?_,?_,?_⟩,om⟩
 ·exact jH l (λu=>u.rds.length<=1000000000) (by decide) λi hi=>by have:=(hu i hi).1;omega
 ·exact jH l (λu=> ∀j,(u.rds.getD j default).src.length<=1000000000) (λj=>by simp[show (default:Un).rds= []from rfl,show (default:Rd).src= []from rfl]) λi hi=>jH _ (λr:Rd=>r.src.length<=1000000000) (by decide) λj hj=>by have:=(hu i hi).2 j hj;omega
 ·exact jH l (λu=> ∀j,(u.rds.getD j default).words.length<=1000000000) (λj=>by simp[show (default:Un).rds= []from rfl,show (default:Rd).words= []from rfl]) λi hi=>jH _ (λr:Rd=>r.words.length<=1000000000) (by decide) λj hj=>by have:=(hu i hi).2 j hj;omega
end RC
end
section
namespace AF
open Go
theorem Wk.moveCell{t:wi}{h:wh}{i j a w v:Nat}{ty ty':TypeId}{ds cs:wi}{sz off len:Nat}
  (hi:qu i h=some (.mem w ty' ds)) (ha:ds[a]? =some (.osl j v sz off len)) (hj:qu j h=some (.mem v ty cs)) (hne:i≠j):
  Wk t h t (qt i (qt j h (.emp (v+1))) (.mem w ty' (ds.set a (.osl h.length 1 sz off len)))++ [.mem 1 ty cs]):=by
 intro N W σ A H;obtain⟨p1,p2⟩:=H.hr.pushN 1;have hjl:=zR hj;have hil:=zR hi;have hj':qu j (h++ [.emp 0])=some (.mem v ty cs):=by rw[zL hjl];exact hj
 have hg:qu h.length (h++ [AObj.emp 0])=some (.emp 0):=by unfold qu;rw[List.getElem?_append_right (nlr _),Nat.sub_self];rfl
 have hk':qz (h++ [.emp 0]) h.length=true:=by unfold qz;rw[hg]
 obtain⟨σ2,q1,q2,q3⟩:=HR.move (h:=h++ [.emp 0]) p1 hj' hk' om;have e0:qt h.length (qt j (h++ [.emp 0]) (.emp (v+1))) (.mem (qo (qu h.length (h++ [.emp 0]))+1) ty cs)=qt j h (.emp (v+1))++ [.mem 1 ty cs]:=by
  rw[hg];unfold qt;rw[List.set_append_left _ _ hjl,List.set_append_right _ _ (by rw[List.length_set];exact nlr _),List.length_set,Nat.sub_self];rfl
 rw[e0]at q1;rw[hg]at q3;have ee:=p2.trans q2;have hiq:qu i (qt j h (.emp (v+1))++ [.mem 1 ty cs])=some (.mem w ty' ds):=by
  rw[zL (by rw[qO];exact hil),qT (by exact hne)];exact hi
 obtain⟨o,b,arr,o1,o2,o3,o4,o5,o6,o7,o8,o9⟩:=jL q1 (qR hiq);obtain⟨o',b',arr',r1,r2,r3,r4,r5,r6,r7,r8,r9⟩:=jL H.hr (qR hi);obtain⟨o2',s1,s2,s3⟩:=ee.obj i o' r1;rw[o1]at s1;cases s1;have eo:o=o':=s3 (o2.trans r2.symm);subst eo;rw[o4]at r4;cases r4;have earr:arr=arr':=by
  obtain⟨T,fz,_,x1⟩:=o5;obtain⟨T',fz',_,x2⟩:=r5;rw[x1]at x2;cases x2;rfl
 subst earr;have q:=q1.recell (cs':=ds.set a (.osl h.length 1 sz off len)) hiq o1 o4 o5 o6 (by simpa using o7) (λn x hn hx=>o8 n x (by simpa using hn) hx) (λn d x hd hx=>by
  rw[List.getElem?_set]at hd;split at hd
  ·rename_i e;subst e;split at hd
   ·cases hd;exact q3 sz off len x ((r9 a _ x ha hx).ext p2)
   ·cases hd
  ·exact o9 n d x hd hx)
 have e1:qt i (qt j h (.emp (v+1))++ [.mem 1 ty cs]) (.mem w ty' (ds.set a (.osl h.length 1 sz off len)))=qt i (qt j h (.emp (v+1))) (.mem w ty' (ds.set a (.osl h.length 1 sz off len)))++ [.mem 1 ty cs]:=by
  unfold qt;rw[List.set_append_left _ _ (by rw[List.length_set];exact hil)]
 rw[e1]at q;exact⟨σ2,⟨q,H.sz,λn d x hd hx=>(H.tm n d x hd hx).ext ee,qaH ee H.df⟩,ee⟩
end AF
end
section
open Go Go.Proofs AF HY LN
namespace RC
def j8(base:Nat)(L:List Rd):wi:=(List.range L.length).flatMap λj=> [strs (L.getD j default).words,.osl (base+j) (L.getD j default).src.length 1 0 (L.getD j default).src.length]
def qc9(L:List Rd):wh:=L.map λr=> .mem r.src.length 3 (qM r.src)
theorem qg7(L:List Rd):(qc9 L).length=L.length:=by simp[qc9]
theorem qdO{L:List Rd}{j:Nat}(hj:j<L.length):(qc9 L)[j]? =some (.mem (L.getD j default).src.length 3 (qM (L.getD j default).src)):=by
 unfold qc9;rw[List.getElem?_map,zD hj,gdqA,zD hj];rfl
theorem qg6(L M:List Rd):qc9 (L++M)=qc9 L++qc9 M:=by simp[qc9]
theorem qg8{L:List Rd}{j:Nat}(r:Rd):(qc9 L).set j (.mem r.src.length 3 (qM r.src))=qc9 (L.set j r):=by
 unfold qc9;rw[List.map_set]
theorem qc8{α:Type}(f g:Nat->List α): ∀n,(∀i,i<n->f i=g i)->(List.range n).flatMap f=(List.range n).flatMap g:=λn h=>by
 rw[List.flatMap_def,List.flatMap_def];congr 1;exact List.map_congr_left λi hi=>h i (List.mem_range.1 hi)
theorem qeW(base:Nat)(L:List Rd)(r:Rd):j8 base (L++ [r])=j8 base L++ [strs r.words,.osl (base+L.length) r.src.length 1 0 r.src.length]:=by
 unfold j8;rw[lap,List.length_singleton,List.range_succ,List.flatMap_append];congr 1
 ·refine qc8 _ _ _ λi hi=> ?_
  rw[gdqA,List.getElem?_append_left hi,<-gdqA]
 ·simp
theorem U6(base:Nat)(L:List Rd):(j8 base L).length=2*L.length:=by
 unfold j8;generalize L.length=n;generalize hf:(λj=> [strs (L.getD j default).words,AV.osl (base+j) (L.getD j default).src.length 1 0 (L.getD j default).src.length])=f;have h2: ∀j,(f j).length=2:=λj=>by rw[<-hf];rfl
 induction n with
 |zero=>rfl
 |succ n ih=>rw[List.range_succ,List.flatMap_append,lap,ih];simp[h2];omega
theorem qbo(base:Nat)(L:List Rd){k:Nat}(hk:k<L.length): ∃A B,A.length=2*k∧j8 base L=A++ [strs (L.getD k default).words,.osl (base+k) (L.getD k default).src.length 1 0 (L.getD k default).src.length]++B∧
  ∀s,j8 base (L.set k ⟨(L.getD k default).words,s⟩)=A++ [strs (L.getD k default).words,.osl (base+k) s.length 1 0 s.length]++B:=by
 have e:List.range L.length=List.range k++k::(List.range (L.length-(k+1))).map (λi=>k+1+i):=by
  conv=>lhs;rw[show L.length=k+1+(L.length-(k+1)) by omega,List.range_add,List.range_succ,List.append_assoc]
  rfl
 refine⟨(List.range k).flatMap λj=> [strs (L.getD j default).words,.osl (base+j) (L.getD j default).src.length 1 0 (L.getD j default).src.length],((List.range (L.length-(k+1))).map (λi=>k+1+i)).flatMap λj=> [strs (L.getD j default).words,.osl (base+j) (L.getD j default).src.length 1 0 (L.getD j default).src.length],?_,?_,λs=> ?_⟩
 ·have h2: ∀(f:Nat->wi),(∀j,(f j).length=2)-> ∀n,((List.range n).flatMap f).length=2*n:=λf hf n=>by
   induction n with
   |zero=>rfl
   |succ n ih=>rw[List.range_succ,List.flatMap_append,lap,ih];simp[hf];omega
  exact h2 _ (λ_=>rfl) _
 ·unfold j8;rw[e,List.flatMap_append,List.flatMap_cons,List.append_assoc]
 ·unfold j8;rw[List.length_set,e,List.flatMap_append,List.flatMap_cons,List.append_assoc];have g: ∀j,(L.set k ⟨(L.getD k default).words,s⟩).getD j default=if j=k then ⟨(L.getD k default).words,s⟩ else L.getD j default:=λj=>kF hk
  congr 1
  ·refine qc8 _ _ _ λi hi=> ?_
   rw[g,ine om]
  ·rw[g,ipo rfl];show _::_::_=_::_::_;congr 2;rw[List.flatMap_def,List.flatMap_def,List.map_map,List.map_map];refine congrArg List.flatten (List.map_congr_left λi _=> ?_);simp only[Function.comp];rw[g,ine om]
theorem qg5{base:Nat}{L:List Rd}{i:Nat}(hi:i<L.length):((j8 base L).drop (i*2)).take 2= [strs (L.getD i default).words,.osl (base+i) (L.getD i default).src.length 1 0 (L.getD i default).src.length]:=by
 obtain⟨A,B,h1,h2,_⟩:=qbo base L hi;rw[h2,show i*2=A.length by omega,List.append_assoc,List.drop_append,Nat.sub_self];simp
theorem qgS{L:List Int}{n:Nat}{g:AV->AV}(hg: ∀x,g (.int .i64 x)= .int .i64 x)(hn:n=L.length):ILe (qe4 (some (.mem n 3 (qM L))) n 1 0 n g) (qx L):=by
 subst hn;rw[slOf_mem,ipo ⟨rfl,by rw[ja];omega⟩];refine ILe.sl_eq λi hi=> ?_
 simp only[Nat.zero_add,Nat.mul_one];have e:((qM L).drop i).take 1= [.int .i64 (L.getD i 0)]:=by
  rw[List.drop_eq_getElem_cons (by rw[ja];exact hi),List.take_succ_cons,List.take_zero];have h:=qln (C:=L) hi;rw[zD (by rw[ja];exact hi)]at h;rw[Option.some.inj h]
 rw[e,List.map_cons,List.map_nil,hg]
theorem qmh{base v:Nat}{L:List Rd}{n:Nat}{fz:Nat->Bool}{H:wh}{d:Nat}(hn:n=L.length)(hf: ∀j,j<L.length->fz (base+j)=true)(hj: ∀j,j<L.length->qu (base+j) H=some (.mem (L.getD j default).src.length 3 (qM (L.getD j default).src))):
  VLe (qe4 (some (zw v 152 (j8 base L))) v 2 0 n (rei fz H (d+2))) (jh L):=by
 subst hn
 by_cases h0:L= []
 ·subst h0;show VLe (qe4 (some (.emp v)) v 2 0 0 _) _;rw[slOf_emp,ipo rfl];exact qU
 ·have e0:zw v 152 (j8 base L)= .mem v 152 (j8 base L):=c8 (λe=>h0 (by
   have:=U6 base L
   rw[e]at this
   exact List.eq_nil_of_length_eq_zero (by simp at this;omega)))
  rw[e0,slOf_mem,ipo ⟨rfl,by rw[U6];omega⟩];refine VLe.sl (λi hi=> ?_);simp only[Nat.zero_add];rw[qg5 hi];refine⟨ILe.refl _,?_,trivial⟩;show ILe (rei fz H (d+1+1) (.osl (base+i) _ 1 0 _)) _;rw[rei_osl,ipo (hf i hi),hj i hi];exact qgS (λ_=>rfl) rfl
theorem qkz{A B:wi}{a b c:AV}{n:Nat}(hn:n=A.length+1):List.take n (A++ [a,b]++B)++ [c]++List.drop (n+1) (A++ [a,b]++B)=A++ [a,c]++B:=by
 have e1:A++ [a,b]++B=(A++ [a])++(b::B):=by simp
 have e2:A++ [a,b]++B=(A++ [a]++ [b])++B:=by simp
 have h1:List.take n (A++ [a,b]++B)=A++ [a]:=by rw[e1];exact List.take_left' (by rw[lap,List.length_singleton,hn])
 have h2:List.drop (n+1) (A++ [a,b]++B)=B:=by rw[e2];exact List.drop_left' (by rw[lap,lap,List.length_singleton,List.length_singleton,hn])
 rw[h1,h2];simp
theorem qfq{hi:Int}: ∀ {S:List Int} {lo:Int},S.Pairwise (· < ·)->(∀x∈S,lo<=x∧x<hi)->S.length<=(hi-lo).toNat:=by
 intro S
 induction S with
 |nil=>intro lo _ _;exact nzl _
 |cons a S ih=>
  intro lo h1 h2;obtain⟨p1,p2⟩:=List.pairwise_cons.1 h1;have ha:=h2 a List.mem_cons_self
  have:=ih (lo:=a+1) p2 λx hx=>⟨by have:=p1 x hx;omega,(h2 x (List.mem_cons_of_mem _ hx)).2⟩
  rw[lco];omega
theorem qDF{h M:wh}{a0 a1 a2 a3 a4 a5 a6 a7 a8:AObj}:(h++a0::a1::a2::a3::a4::a5::a6::a7::a8::M).length=h.length+9+M.length:=by
 simp only[lap,lco];omega
theorem qeF{h M:wh}{a0 a1 a2 a3 a4 a5 a6 a7 a8:AObj}{j:Nat}:qu (h.length+9+j) (h++a0::a1::a2::a3::a4::a5::a6::a7::a8::M)=M[j]? :=by
 unfold qu;rw[List.getElem?_append_right om,show h.length+9+j-h.length=j+9 by omega];rfl
theorem qA8{h M:wh}{a0 a1 a2 a3 a4 a5 a6 a7 a8 o:AObj}{j:Nat}:qt (h.length+9+j) (h++a0::a1::a2::a3::a4::a5::a6::a7::a8::M) o=h++a0::a1::a2::a3::a4::a5::a6::a7::a8::M.set j o:=by
 unfold qt;rw[List.set_append_right _ _ om,show h.length+9+j-h.length=j+9 by omega];rfl
theorem qE5(x:Co)(f t:Nat)(h:wh)(ho:CoOk x)(ht:t<=x.col.length)(hn:x.col.length<=1000000000):ACalls Tryz.prog 63 [.agg (coC x),.int .i64 (f:Int),.int .i64 (t:Int)] h (jh (qbL x f t)) h:=by
 have zl: ∀g,valL g .len [strs x.sig]= .int .i64 x.sig.length:=λ_=>rfl
 have zo: ∀g,okL g .len [strs x.sig]=True:=λ_=>eqt trivial
 refine acO qDh ?_;simp (disch:=omega) only[qEH,coC,zl,zo,go_sem];refine qk (T:=λi:Nat×Nat×AObj×AObj×AObj×AObj=>qP 48 [(1,.int .i64 (f:Int)),(2,.int .i64 (t:Int)),(3,.op h.length 1 0),(7,.osl (h.length+2) i.2.1 2 0 (kI x f (t-f) i.1).length),(13,.int .i64 x.sig.length),(14,.int .i64 i.1)])
  (H:=λi=>h++ .mem 1 26 (coC x):: .emp 1::zw i.2.1 152 (j8 (h.length+9) (kI x f (t-f) i.1))::i.2.2.1::i.2.2.2.1::i.2.2.2.2.1:: .emp 0::i.2.2.2.2.2:: .emp 0::qc9 (kI x f (t-f) i.1))
  (inv:=λi=>i.1<=x.sig.length∧qz [i.2.2.1] 0=true∧qz [i.2.2.2.1] 0=true∧qz [i.2.2.2.2.1] 0=true∧qz [i.2.2.2.2.2] 0=true) (m:=λi=>x.sig.length-i.1) (0,1,.emp 0,.emp 0,.emp 0,.emp 0) ⟨nzl _,rfl,rfl,rfl,rfl⟩ (Wk.temps ?_) ?_
 ·(simp only[kI,lnl,go_sem,qf,qc,qa,qe];try exact we)
 rintro⟨s,v,O3,O4,O5,O7⟩ ⟨i1,j3,j4,j5,j7⟩ K hK;simp only at i1 j3 j4 j5 j7 hK;have j3': ∀m,qz (O3::m) 0=true:=λ_=>j3
 have j4': ∀m,qz (O4::m) 0=true:=λ_=>j4
 have j5': ∀m,qz (O5::m) 0=true:=λ_=>j5
 have j7': ∀m,qz (O7::m) 0=true:=λ_=>j7
 have hst:kI x f (t-f) (s+1)=qdn (kI x f (t-f) s) (rdG x s f (t-f)) s:=rfl;have hln:=qdQ x f (t-f) s;have hsg:=ho.sg;obtain⟨L,hL⟩:=wg (kI x f (t-f) s)
 rw[<-hL]at hst hln;have eL:=hL.symm
 by_cases hs:s<x.sig.length
 ·have k1:((s:Int)<x.sig.length)=True:=wj;have c21:=λh=>rdP x f t s h ho ht hs hn
  obtain⟨w,hw⟩:=wg (rdG x s f (t-f))
  rw[<-hw]at hst;simp only[<-hw]at c21;unfold coC at c21;simp (disch:=omega) only[coC,k1,eL,go_sem]
  repeat' first|(refine cA (c21 _) flk ?_;simp (disch:=omega) only[j3',j4',go_sem])
  have hwl:w.length<=1000000000:=by have:=qaq x s f (t-f);rw[<-hw]at this;omega
  have hRd:=qdP x f (t-f) s;rw[eL]at hRd;have hwL: ∀j,(L.getD j default).words.length<=1000000000:=jH L (λr=>r.words.length<=1000000000) (by decide) λj hj=>by
   have h1:=hRd.nn j hj;obtain⟨y,ys,e⟩:=List.exists_cons_of_ne_nil h1;have h2:=hRd.wd j hj y (by rw[e];exact List.mem_cons_self);rw[h2]
   have:=qaq x y.toNat f (t-f)
   omega
  have hob:= @qdO L;refine cA (r:= .int .i64 (qbK L w)) ?c (by exact flk) ?_
  case c=>
   refine ACalls.borrow ((fdP L ⟨w,[(s:Int)]⟩ [] om hwl hwL).le ?v (qi)) rfl;simp only[List.map_cons,List.map_nil,go_sem];refine⟨qmh rfl (λ_ _=>rfl) (λj hj=>by rw[qeF];exact hob hj),VLe.agg ⟨qi,VLe.sl_eq rfl (λi hi=> ?_),trivial⟩,qi,trivial⟩;obtain rfl:i=0:=by simpa using hi
   rfl
  have eKl:=U6 (h.length+9) L;rcases kA L w with⟨k,b1,b2,b3⟩|⟨b1,b2⟩
  ·have q1:(qbK L w<0)=False:=wl;have hst2:kI x f (t-f) (s+1)=L.set k ⟨w,(L.getD k default).src++ [(s:Int)]⟩:=by
    rw[hst];unfold qdn;rw[b3,ine om,itn]
   obtain⟨A,B,a1,a2,a3⟩:=qbo (h.length+9) L b1;have a3:=a3 ((L.getD k default).src++ [(s:Int)]);have hne:(j8 (h.length+9) L≠ [])=True:=eqt λe=>by rw[e]at eKl;simp at eKl;omega
   have hob:=hob b1;rw[b2]at a2 a3;have hos:= @qg8 L k ⟨w,(L.getD k default).src++ [(s:Int)]⟩;rw[<-hst2]at hos a3;dsimp only at hos;obtain⟨S,hS⟩:=wg ((L.getD k default).src)
   rw[<-hS]at a2 a3 hob hos;rw[lap,List.length_singleton]at a3 hos;rw[qaP,show qM [(s:Int)]= [AV.int .i64 (s:Int)]from rfl]at hos;have gg:(j8 (h.length+9) L)[k*2+1]? =some (.osl (h.length+9+k) S.length 1 0 S.length):=by
    rw[a2,List.append_assoc,List.getElem?_append_right om,show k*2+1-A.length=1 by omega];rfl
   have gs:List.take (k*2+1) (j8 (h.length+9) L)++ [.osl (h.length+9+k) (S.length+1) 1 0 (S.length+1)]++List.drop (k*2+1+1) (j8 (h.length+9) L)=j8 (h.length+9) (kI x f (t-f) (s+1)):=by
    rw[a2,a3];exact qkz om
   have eI:=ja S;have hSl:S.length<=1000:=by
    have:=(qca x f (t-f) s).src (L.getD k default) (by rw[eL,gdqA,zD b1];exact List.getElem_mem b1)
    have:=qfq (hi:=(s:Int)) (lo:=0) this.1 this.2
    rw[<-hS]at this;omega
   have eown:zw v 152 (j8 (h.length+9) L)= .mem v 152 (j8 (h.length+9) L):=c8 (of_eq_true hne);have el2:(kI x f (t-f) (s+1)).length=L.length:=by rw[hst2,List.length_set]
   have eown2:zw v 152 (j8 (h.length+9) (kI x f (t-f) (s+1)))= .mem v 152 (j8 (h.length+9) (kI x f (t-f) (s+1))):=c8 λe=>by
    have:=U6 (h.length+9) (kI x f (t-f) (s+1))
    rw[e,el2]at this;simp at this;omega
   have eTi:List.take S.length (qM S)=qM S:=ltl om;have kL:((k:Int)<L.length)=True:=wj;have k0:(0<=(k:Int))=True:=wj;rw[eown];simp (disch:=omega) only[b3,j7',gg,eKl,kL,k0,Option.getD_some,Option.isSome_some,qeF,qA8,hob,eTi,Nat.mul_one,itn,go_sem]
   repeat' first|(with_reducible first|intro _|apply aiA)|exact clz|fail
   all_goals try (simp only[jp,zH,qeF,hob,gG,qm,if_true,Option.getD_some,eI,beq_self_eq_true];done)
   all_goals try (simp only[bne_iff_ne];omega)
   all_goals try (simp only[zH,qeF,hob,qm,if_true,Option.getD_some,eI];exact nlr _)
   rw[gs];have eD:(AV.int .i64 (s:Int)::List.drop 1 (zM [i6 0] 1))= [AV.int .i64 (s:Int)]:=rfl;simp only[eD];rw[hos];refine hK _ _ (s+1,v,.mem (qo (some O3)+1) 3 [.int .i64 (s:Int)],.mem (qo (some O4)+1) 152 [strs w,.osl (h.length+3) (qo (some O3)+1) 1 0 1],O5,.mem (qo (some O7)+1) 3 [.int .i64 (s:Int)]) ⟨hs,rfl,rfl,j5,rfl⟩ (by simp only;omega) ?_;simp only[eown2,el2,coC];refine Wk.temps ?_
   (simp only[go_sem,qf,qc,qa,qe];try exact we)
  ·have q1:(qbK L w<0)=True:=eqt b2;have hst2:kI x f (t-f) (s+1)=L++ [⟨w,[(s:Int)]⟩]:=by
    rw[hst];unfold qdn;rw[ipo b2]
   have eTk:List.take (L.length*2) (j8 (h.length+9) L)=j8 (h.length+9) L:=ltl om;simp (disch:=omega) only[q1,j5',eTk,eKl,Nat.mul_one,go_sem]
   repeat' first|with_reducible apply aiA|exact clz|fail
   have el2:(kI x f (t-f) (s+1)).length=L.length+1:=by rw[hst2,lap];rfl
   have eo:qc9 (kI x f (t-f) (s+1))=qc9 L++ [.mem 1 3 [.int .i64 (s:Int)]]:=by rw[hst2,qg6];rfl
   have ek:j8 (h.length+9) (kI x f (t-f) (s+1))=j8 (h.length+9) L++ [strs w,.osl (h.length+9+L.length) 1 1 0 1]:=by rw[hst2,qeW];rfl
   have eown:zw (v+1) 152 (j8 (h.length+9) L++ [strs w,.osl (h.length+3) (qo (some O3)+1) 1 0 1])= .mem (v+1) 152 (j8 (h.length+9) L++ [strs w,.osl (h.length+3) (qo (some O3)+1) 1 0 1]):=c8 (by simp);have eown2:zw (v+1) 152 (j8 (h.length+9) L++ [strs w,.osl (h.length+9+L.length) 1 1 0 1])= .mem (v+1) 152 (j8 (h.length+9) L++ [strs w,.osl (h.length+9+L.length) 1 1 0 1]):=c8 (by simp);have eset:(j8 (h.length+9) L++ [strs w,AV.osl (h.length+3) (qo (some O3)+1) 1 0 1]).set (L.length*2+1) (.osl (h.length+9+L.length) 1 1 0 1)=j8 (h.length+9) L++ [strs w,.osl (h.length+9+L.length) 1 1 0 1]:=by
    rw[List.set_append_right _ _ om,eKl,show L.length*2+1-2*L.length=1 by omega];rfl
   rw[eown];refine hK _ _ (s+1,v+1,.emp (qo (some O3)+1+1),.mem (qo (some O4)+1) 152 [strs w,.osl (h.length+3) (qo (some O3)+1) 1 0 1],.mem (qo (some O5)+1) 152 [strs w,.osl (h.length+3) (qo (some O3)+1) 1 0 1],O7) ⟨hs,rfl,rfl,rfl,j7⟩ (by simp only;omega)
    (Wk.trans (Wk.moveCell (i:=h.length+2) (j:=h.length+3) (a:=L.length*2+1) (w:=v+1) (v:=qo (some O3)+1) (ty:=3) (ty':=152) (ds:=j8 (h.length+9) L++ [strs w,.osl (h.length+3) (qo (some O3)+1) 1 0 1]) (cs:= [.int .i64 (s:Int)]) (sz:=1) (off:=0) (len:=1) ?m1 ?m2 ?m3 om) ?m4)
   case m1=>simp only[go_sem]
   case m2=>
    rw[List.getElem?_append_right om,show L.length*2+1-(j8 (h.length+9) L).length=1 by omega];rfl
   case m3=>simp only[go_sem];rfl
   case m4=>
    have eD:(AV.int .i64 (s:Int)::List.drop 1 (zM [i6 0] 1))= [AV.int .i64 (s:Int)]:=rfl;have eD2: ∀c:AV,(strs w::c::List.drop 2 (zM [AV.nl,AV.nl] 1))= [strs w,c]:=λ_=>rfl
    simp only[eo,ek,eown2,el2,coC,eD,eD2,qDF,qg7,go_sem,eset,List.append_assoc,lca];refine Wk.temps ?_
    (simp only[go_sem,qf,qc,qa,qe];try exact we)
 ·have k1:((s:Int)<x.sig.length)=False:=wl;obtain rfl:s=x.sig.length:=by omega
  have hF:qbL x f t=L:=by rw[hL];rfl
  rw[hF];simp (disch:=omega) only[k1,eL,go_sem]
  repeat' first|(apply qb;exact rvk;simp only[go_sem])
  exact qmh rfl (λj _=>dqt om) (λj hj=>by rw[qeF];exact qdO hj)
end RC
end
