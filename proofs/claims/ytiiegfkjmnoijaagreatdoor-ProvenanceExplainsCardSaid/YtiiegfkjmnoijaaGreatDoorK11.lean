import Derived.Test.YtiiegfkjmnoijaaGreatDoorK10
import Derived.Test.YtiiegfkjmnoijaaGreatDoorK3
import Derived.Test.YtiiegfkjmnoijaaGreatDoorK5
import Derived.Test.YtiiegfkjmnoijaaGreatDoorK8
import Derived.Test.YtiiegfkjmnoijaaGreatDoorProg
import Derived.Test.YtiiegfkjmnoijaaGreatDoorK9
import Derived.Test.YtiiegfkjmnoijaaGreatDoorK7
set_option linter.all false
set_option maxHeartbeats 64000000
set_option maxRecDepth 100000
section
open Go Go.Proofs AF HY LN
namespace RC
structure qqs (L:List Rd) (s:Nat) (W:Nat->List Str):Prop where
 has: ∀i,i<s-> ∃j,j<L.length∧(i:Int)∈(L.getD j default).src
 wd: ∀j,j<L.length-> ∀x∈(L.getD j default).src,(L.getD j default).words=W x.toNat
 nn: ∀j,j<L.length->(L.getD j default).src≠ []
theorem TE{L:List Rd}{r:Rd}{j:Nat}:(L++ [r]).getD j default=if j<L.length then L.getD j default else if j=L.length then r else default:=by
 rw[gdqA];split
 ·rename_i h;rw[List.getElem?_append_left h,gdqA]
 ·rename_i h;rw[List.getElem?_append_right om];split
  ·rename_i e;subst e;rw[Nat.sub_self];rfl
  ·rw[List.getElem?_eq_none (by rw[List.length_singleton];omega)];rfl
theorem qmd{L:List Rd}{s:Nat}{W:Nat->List Str}(h:qqs L s W):qqs (qdy L (W s) s) (s+1) W:=by
 rcases Us L (W s)with⟨k,h1,h2,h3⟩|⟨h1,h2⟩
 ·have e:qdy L (W s) s=L.set k ⟨W s,(L.getD k default).src++ [(s:Int)]⟩:=by
   unfold qdy;rw[h3,ine om,itn]
  rw[e];refine⟨λi hi=> ?_,λj hj x hx=> ?_,λj hj=> ?_⟩
  ·by_cases ei:i=s
   ·subst ei;exact⟨k,by rw[List.length_set];exact h1,by rw[ko h1,ipo rfl];exact List.mem_append_right _ (List.mem_singleton.2 rfl)⟩
   ·obtain⟨j,hj,hx⟩:=h.has i om;refine⟨j,by rw[List.length_set];exact hj,?_⟩;rw[ko h1];split
    ·rename_i e';subst e';exact List.mem_append_left _ hx
    ·exact hx
  ·rw[List.length_set]at hj;rw[ko h1]at hx ⊢;split at hx
   ·rename_i e';rw[ipo e'];rcases List.mem_append.1 hx with hx|hx
    ·rw[<-h2];exact h.wd k h1 x hx
    ·rw[List.mem_singleton]at hx;subst hx;rfl
   ·rename_i e';rw[ine e'];exact h.wd j hj x hx
  ·rw[List.length_set]at hj;rw[ko h1];split
   ·exact λe=>absurd (List.append_eq_nil_iff.1 e).2 (by simp)
   ·exact h.nn j hj
 ·have e:qdy L (W s) s=L++ [⟨W s,[(s:Int)]⟩]:=by
   unfold qdy;rw[ipo h2]
  rw[e];refine⟨λi hi=> ?_,λj hj x hx=> ?_,λj hj=> ?_⟩
  ·by_cases ei:i=s
   ·subst ei;exact⟨L.length,by rw[lap,List.length_singleton];omega,by rw[TE,ine om,ipo rfl];exact List.mem_singleton.2 rfl⟩
   ·obtain⟨j,hj,hx⟩:=h.has i om;exact⟨j,by rw[lap,List.length_singleton];omega,by rw[TE,ipo hj];exact hx⟩
  ·rw[lap,List.length_singleton]at hj;rw[TE]at hx ⊢;split at hx
   ·rename_i hl;rw[ipo hl];exact h.wd j hl x hx
   ·rename_i hl;rw[ine hl,ipo om];rw[ipo om]at hx;rw[List.mem_singleton]at hx;subst hx;rfl
  ·rw[lap,List.length_singleton]at hj;rw[TE];split
   ·rename_i hl;exact h.nn j hl
   ·rw[ipo om];simp
theorem qfb(x:Co)(f d:Nat): ∀s,qqs (UP x f d s) s λi=>rdG x i f d:=by
 intro s
 induction s with
 |zero=>exact⟨λi h=>absurd h (nnz i),λj h=>absurd h (nnz j),λj h=>absurd h (nnz j)⟩
 |succ s ih=>exact qmd ih
end RC
end
section
open Go Go.Proofs AF
def qay:List Nat:= []
def qCe:C:=
 (vU [O1 1 (.box 0 26) 0,MC 2 (.bool false)] ((vU [vO 3 0] (C.block 0 ((vU [MV 4 3,vN 5 3 1,LD 6 5,O1 7 .len 6,BI 8 .lss 4 7] (vW 8 0)).seq ((C.block 1 (vU [vN 11 3 1,LD 12 11,MV
 13 3,O2 14 (.idxA 1) 12 13,LD 15 14,O1 16 .len 15,vP 17 .gtr 16 36] (vV 17 (vX [MC 2 (.bool true)])))).seq (vZ 9 3))).loop)).seq (vX [vN 18 2 1,LD 19 18,O1 20 (.call 85 true)
 19,MV 21 20,v7 22 21 3 1,v8 23 21 22,vQ 24 21 .len 23,vT 25 21 (.bin .gtr) 24 (i6 24),PT 26 21 25,MV 27 26,v7 28 27 1 1,v8 29 27 28,vQ 30 27 .len 29,vT 31 27 (.bin .gtr) 30 (i6
 36),PT 32 27 31,MV 33 32,v7 34 33 0 1,v8 35 33 34,v7 36 33 1 1,v8 37 33 36,vR 38 33 (.call 86 true) 35 37,PT 39 33 38,MV 2 39])))
theorem qA4:qM Tryz.prog 28 40 1 [RV.tmp 2] qCe:=fi Tryz.f28 [1] qay []
def qCj:C:=
 (vU [MC 2 (.bool false)] (vU [vO 3 1] ((vU [vO 4 0] (C.block 0 ((v6 7 4 0 0).seq ((C.block 1 ((vU [MV 13 0,MV 14 4,O2 15 (.idxA 1) 13 14,LD 16 15,O1 17 .len 16,vP 18 .gtr 17
 6,MV 19 18,vS 20 19 4,vT 21 19 (.bin .geq) 20 (i6 4),vS 22 19 21,MG 23 22 true 0,MG 24 22 true 4,P2 25 22 true (.idxA 1) 23 24,P1 26 22 true (.load none) 25,P1 27 22 true .len
 26,PC 28 22 true (.bin .gtr) 27 (i6 1),QF 29 19 false 22 28,PT 30 19 29] (vV 30 (vX [MC 2 (.bool true)]))).seq ((vU [MV 31 4,vP 32 .lss 31 4] (vV 32 (vY [MV 33 3,MV 34 0,MV 35
 4,O2 36 (.idxA 1) 34 35,LD 37 36,O1 38 .len 37,vP 39 .add 38 1,BI 40 .mul 33 39,MV 3 40]))).seq (vU [vO 5 0] (C.block 2 ((vU [MV 41 5,MV 42 0,MV 43 4,O2 44 (.idxA 1) 42 43,LD
 45 44,O1 46 .len 45,BI 47 .lss 41 46] (vW 47 2)).seq ((C.block 3 (vU [MV 50 0,MV 51 4,O2 52 (.idxA 1) 50 51,LD 53 52,MV 54 5,O2 55 (.idxA 6) 53 54,O1 56 (.load (some 6))
 55,⟨some 6,none,.alloc 0 92 [.str [],.str [],.str [],i6 0,i6 0,.str []],[]⟩,ST 6 6 56] (vU [vN 57 0 6,LD 58 57,O1 59 .slen 58,vP 60 .gtr 59 12,MV 61 60,v7 62 61 1 6,v8 63 61
 62,vQ 64 61 .slen 63,vT 65 61 (.bin .gtr) 64 (i6 12),PT 66 61 65,MV 67 66,v7 68 67 2 6,v7 69 67 0 68,v8 70 67 69,vQ 71 67 .slen 70,vT 72 67 (.bin .gtr) 71 (i6 20),PT 73 67
 72,MV 74 73,v7 75 74 5 6,v8 76 74 75,vQ 77 74 .slen 76,vT 78 74 (.bin .gtr) 77 (i6 20),PT 79 74 78] (vV 79 (vX [MC 2 (.bool true)]))))).seq (vZ 48 5))).loop))))).seq (vZ 11
 4))).loop)).seq (vX [MV 80 3,vP 81 .gtr 80 400,MV 82 81,vS 83 82 0,vQ 84 82 .len 83,vT 85 82 (.bin .gtr) 84 (i6 6),vS 86 82 85,MG 87 86 true 0,P1 88 86 true .len 87,PC 89 86
 true (.bin .leq) 88 (i6 32),QF 90 82 false 86 89,PT 91 82 90,MV 92 91,vS 93 92 0,vQ 94 92 .len 93,vT 95 92 (.bin .gtr) 94 (i6 34),PT 96 92 95,MV 2 96]))))
theorem qBd:qM Tryz.prog 85 97 1 [RV.tmp 2] qCj:=fi Tryz.f85 [6] qay []
def qCk:C:=
 (vU [MC 4 (.bool false)] ((vU [vO 5 0] (C.block 0 ((v6 6 5 1 0).seq ((C.block 1 (vU [MV 12 1,MV 13 5,O2 14 (.idxA 1) 12 13,LD 15 14,O1 16 .slen 15,vP 17 .gtr 16 20] (vV 17 (vX
 [MC 4 (.bool true)])))).seq (vZ 10 5))).loop)).seq (vX [MV 18 0,O1 19 .slen 18,vP 20 .gtr 19 20,MV 4 20])))
theorem qBe:qM Tryz.prog 86 21 0 [RV.tmp 4] qCk:=fi Tryz.f86 [] qay []
def qAt:C:=
 (vU [O1 3 (.box 0 36) 0,MC 4 (.bool false)] (vX [vN 5 1 3,LD 6 5,LD 7 1,BI 8 .eql 6 7,MV 9 8,P1 10 9 true (.fldA 0) 3,P1 11 9 true (.load none) 10,P1 12 9 true (.load none) 2,P2
 13 9 true (.bin .eql) 11 12,PF 14 9 13,MV 4 14]))
theorem qx0:qM Tryz.prog 73 15 1 [RV.tmp 4] qAt:=fi Tryz.f73 [3] qay []
def UW:C:=
 (vU [O1 5 (.box 0 26) 0,O1 7 (.box 1 36) 2,O1 8 (.box 2 36) 3,vO 10 0] ((C.block 0 (vU [vN 14 0 7,LD 15 14,BC 16 .eql 15 (.str []),MV 17 16,v7 18 17 0 7,v8 19 17 18,vQ 20 17
 .slen 19,vT 21 17 (.bin .gtr) 20 (i6 64),PT 22 17 21,MV 13 22] (C.cond (.t 13) (vX [vO 10 11]) (vU [vN 24 1 7,LD 25 24,vP 26 .lss 25 0,MV 27 26,v7 28 27 1 7,v8 29 27 28,v7 30
 27 3 5,v8 31 27 30,vQ 32 27 .len 31,vR 33 27 (.bin .geq) 29 32,PT 34 27 33,MV 35 34,vS 36 35 4,vQ 37 35 (.un UnOp.not) 36,vS 38 35 37,P1 39 38 true (.fldA 1) 7,P1 40 38 true
 (.load none) 39,P1 41 38 true (.fldA 1) 8,P1 42 38 true (.load none) 41,P2 43 38 true (.bin .lss) 40 42,QF 44 35 false 38 43,PT 45 35 44,MV 23 45] (C.cond (.t 23) (vX [vO 10
 19]) (vU [vN 47 2 7,LD 48 47,BC 49 .lss 48 (i6 (-1)),MV 50 49,v7 51 50 2 7,v8 52 50 51,vS 53 50 1,vQ 54 50 .len 53,vR 55 50 (.bin .geq) 52 54,PT 56 50 55,MV 46 56] (vV 46 (vX
 [vO 10 20])))))))).seq ((vU [MV 58 1,vN 59 1 7,LD 60 59,O2 61 (.call 71 true) 58 60,MV 57 61,O1 62 (.ext 0) 57,O1 63 (.ext 1) 57,MV 11 62,MV 12 63] (vU [MV 64 11,vN 65 2 7,LD
 66 65,BI 67 .neq 64 66] (vV 67 (vX [vO 10 20])))).seq ((vU [vN 68 3 7,LD 69 68,BC 70 .lss 69 (i6 (-1)),MV 71 70,v7 72 71 2 7,v8 73 71 72,vT 74 71 (.bin .lss) 73 (i6 0),vS 75 71
 74,P1 76 75 true (.fldA 3) 7,P1 77 75 true (.load none) 76,PC 78 75 true (.bin .neq) 77 (i6 (-1)),QF 79 71 false 75 78,PT 80 71 79,MV 81 80,vS 82 81 4,vQ 83 81 (.un UnOp.not)
 82,vS 84 81 83,P1 85 84 true (.fldA 2) 7,P1 86 84 true (.load none) 85,PC 87 84 true (.bin .geq) 86 (i6 0),QF 88 81 false 84 87,vS 89 81 88,P1 90 89 true (.fldA 2) 7,P1 91 89
 true (.load none) 90,P1 92 89 true (.fldA 2) 8,P1 93 89 true (.load none) 92,P2 94 89 true (.bin .eql) 91 93,QF 95 81 false 89 94,vS 96 81 95,P1 97 96 true (.fldA 3) 7,P1 98 96
 true (.load none) 97,P1 99 96 true (.fldA 3) 8,P1 100 96 true (.load none) 99,P2 101 96 true (.bin .neq) 98 100,QF 102 81 false 96 101,PT 103 81 102] (vV 103 (vX [vO 10
 2]))).seq (vX [vO 10 0])))))
theorem ke:qM Tryz.prog 70 104 3 [RV.tmp 10] UW:=fi Tryz.f70 [5,7,8] qay []
end
section
open Go Go.Proofs AF HY LN
namespace RC
theorem qA1(u:Un)(c:Int)(h:wh):ACalls Tryz.prog 128 [.agg (unC u),.ip [.int .i64 c]] h (.bool (decide (u.frm<=c)&&decide (c<u.to))) h:=by
 by_cases g:u.frm<=c
 ·have k1:(u.frm<=c)=True:=eqt g;rw[dqt g,Bool.true_and];refine acO qpC ?_;simp (disch:=omega) only[qqH,unC,k1,go_sem]
  repeat' first|exact wa|with_reducible apply aiA|exact clz|fail
 ·have k1:(u.frm<=c)=False:=eqf g;rw[dqf g,Bool.false_and];refine acO qpC ?_;simp (disch:=omega) only[qqH,unC,k1,go_sem]
  repeat' first|exact wa|with_reducible apply aiA|exact clz|fail
theorem qDk(l:List Un)(c:Int)(k v:Nat)(h:wh)(hk:qr k h=some (.mem v 3 [.int .i64 c]))(hl:l.length<=1000000000):
  ACalls Tryz.prog 92 [zA l,.fn (.func 128) [] [.op k v 0]] h (.int .i64 (fnU l c)) h:=by
 have hc:=qG hk;unfold zA fnU;refine qbP qx3 l.length (λj=>unC (l.getD j default)) (λj=> .agg (unC (l.getD j default))) _ [] [.op k v 0] _ h (λi _=>⟨rfl,by simp[jU,unC],rfl,rfl,rfl⟩) (λi _=> ?_) om;refine ACalls.borrow ?_ rfl;have e:([AV.agg (unC (l.getD i default))]++ [AV.op k v 0]).map (rei (λ_=>true) h 8)= [.agg (unC (l.getD i default)),.ip [.int .i64 c]]:=by
  simp only[lca,lna,List.map_cons,List.map_nil,rei_op,if_true,hc,ipOf_some,List.drop_zero,rei_agg];rfl
 rw[lna,e];exact qA1 _ c _
def fnR(l:List Un)(c:Int):Int:=if c<0 then 0 else fnU l c
def fnE(c:Int):Int:=if c<0 then 2 else 0
theorem qx5(l:List Un)(c:Int)(h:wh)(hl:l.length<=1000000000):ACalls Tryz.prog 71 [zA l,.int .i64 c] h (.tup [.int .i64 (fnR l c),.int .i64 (fnE c)]) h:=by
 unfold fnR fnE
 by_cases g:c<0
 ·have k1:(c<0)=True:=eqt g;rw[ipo g,ipo g];refine acO qxZ ?_;simp (disch:=omega) only[qAs,k1,go_sem]
  repeat' first|exact wa|with_reducible apply aiA|exact clz|fail
 ·have k1:(c<0)=False:=eqf g;rw[ine g,ine g];have c1:=qDk l c h.length 1 (h++ [.mem 1 3 [.int .i64 c]]) (by rw[getO_app0];rfl) hl;refine acO qxZ ?_;simp (disch:=omega) only[qAs,k1,go_sem]
  repeat' first|(refine cA (c1) flk ?_;simp (disch:=omega) only[go_sem])|exact wa|with_reducible apply aiA|exact clz|fail
def rnX(x:Co):List wi:=(qbs (cmB x) x.col.length).map λr=> [.int .i64 (r.1:Int),.int .i64 (r.2:Int)]
theorem qCz(x:Co)(h:wh):ACalls Tryz.prog 89 [.agg (coC x)] h (.fn (.func 144) [] [.ip (coC x)]) h:=by
 unfold coC;refine acO qBf ?_;simp (disch:=omega) only[qCl,go_sem]
 repeat' first|exact wa|fail
theorem qDA(u:Un)(f t:Int)(h:wh):ACalls Tryz.prog 178 [.agg (unC u),.ip [.int .i64 f],.ip [.int .i64 t]] h (.bool (decide (u.frm<=f)&&decide (t<=u.to))) h:=by
 by_cases g:u.frm<=f
 ·have k1:(u.frm<=f)=True:=eqt g;rw[dqt g,Bool.true_and];refine acO qpG ?_;simp (disch:=omega) only[qqK,unC,k1,go_sem]
  repeat' first|exact wa|with_reducible apply aiA|exact clz|fail
 ·have k1:(u.frm<=f)=False:=eqf g;rw[dqf g,Bool.false_and];refine acO qpG ?_;simp (disch:=omega) only[qqK,unC,k1,go_sem]
  repeat' first|exact wa|with_reducible apply aiA|exact clz|fail
theorem qyB{p:Nat->Bool}{n f t:Nat}(h1:f<=t)(h2:t<=n)(h3: ∀j,f<=j->j<t->p j=false)(h4:t<n->p t=true):nxt p (n-f) f=t:=by
 obtain⟨a1,a2,a3,a4⟩:=qe5 p (n-f) f;rcases Nat.lt_trichotomy (nxt p (n-f) f) t with h|h|h
 ·have:=a4 om
  rw[h3 _ a1 h]at this;cases this
 ·exact h
 ·have:=h4 om
  rw[a3 t h1 h]at this;cases this
theorem qy1{x:Co}{pre rest:List (Nat×Nat)}{r:Nat×Nat}(h:qbs (cmB x) x.col.length=pre++r::rest): ∃g:pre.length<(rnX x).length,(rnX x)[pre.length]= [.int .i64 (r.1:Int),.int .i64 (r.2:Int)]:=by
 unfold rnX;refine⟨by rw[h];simp,?_⟩;simp only[h,List.getElem_map];rw[List.getElem_append_right (nlr _)];simp
structure RnS where
 f:Nat
 D:Nat
 pre:List (Nat×Nat)
 hh:wh
theorem itR(x:Co)(ho:CoOk x)(hn:x.col.length<=1000000000):qhc Tryz.prog 144 [.ip (coC x)] (rnX x):=by
 intro h ts LI S E hS hE body start hts;have hcom:=λk h hk=>cmP (x:=x) (k:=k) h ho hk
 obtain⟨p,hp⟩:=wg (cmB x)
 have hxl:(rnX x).length=(qbs p x.col.length).length:=by rw[hp];simp[rnX]
 have hat:= @qy1 x;rw[<-hp]at hat;rw[<-hp]at hcom;refine acQ qwQ ?_;simp (disch:=omega) only[qu3,coC,go_sem];refine qu (T:=λi:RnS=>zf 36 [(0,.yld h.length),(1,.ip (coC x)),(3,.int .i64 i.f)]) (H:=λi=>i.hh++ [.lp .ready ts LI])
  (inv:=λi=>i.f<=x.col.length+1∧x.col.length-i.f<i.D∧qbs p x.col.length=i.pre++kE p x.col.length i.D i.f∧S i.pre.length i.hh) (m:=λi=>x.col.length+1-i.f) ⟨0,x.col.length+1,[],h⟩ ⟨nzl _,by simp only;omega,rfl,start⟩ (Wk.temps ?_) ?_
 ·(simp only[coC,go_sem,qg,qc,qf];try exact we)
 rintro⟨f,D,pre,hh⟩ ⟨i1,i2,i3,i4⟩ K hK;simp only at i1 i2 i3 i4 hK;obtain⟨hlen,hlow⟩:=hS _ _ i4;have hb:(h++ [AObj.lp LS.ready ts LI]).length=(hh++ [AObj.lp LS.ready ts LI]).length:=by simp[hlen]
 by_cases hi:f<x.col.length
 ·have q0:((f:Int)<x.col.length)=True:=wj;obtain⟨D',rfl⟩: ∃D',D=D'+1:=⟨D-1,om⟩
  have hD:kE p x.col.length (D'+1) f=(if f<nxt p (x.col.length-f) f then [(f,nxt p (x.col.length-f) f)] else [])++kE p x.col.length D' (nxt p (x.col.length-f) f+1):=by
   conv=>lhs;unfold kE
   rw[ine om]
  simp (disch:=omega) only[coC,qp,q0,go_sem]
  repeat' first|with_reducible apply aiA|exact clz|fail
  refine qu (T:=λt:Nat=>zf 36 [(0,.yld h.length),(1,.ip (coC x)),(3,.int .i64 f),(4,.int .i64 t)]) (H:=λ_=>hh++ [.lp .ready ts LI])
   (inv:=λt=>f<=t∧t<=x.col.length∧ ∀j,f<=j->j<t->p j=false) (m:=λt=>x.col.length-t) f ⟨nlr _,om,λj h1 h2=>by omega⟩ (Wk.temps ?_) ?_
  ·(simp only[coC,go_sem,qg,qc,qb,qf];try exact we)
  rintro t ⟨t1,t2,t3⟩ K2 hK2;have fin:(t<x.col.length->p t=true)->kE p x.col.length (D'+1) f=(if f<t then [(f,t)] else [])++kE p x.col.length D' (t+1):=λh4=>by
   rw[hD,qyB t1 t2 t3 h4]
  have hend: ∀hh',kE p x.col.length (D'+1) f=(if f<t then [(f,t)] else [])++kE p x.col.length D' (t+1)->S (pre++if f<t then [(f,t)] else []).length hh'->qbs p x.col.length=(pre++if f<t then [(f,t)] else [])++kE p x.col.length D' (t+1):=λhh' h1 _=>by
   rw[i3,h1,List.append_assoc]
  by_cases ht:t<x.col.length
  ·have q1:((t:Int)<x.col.length)=True:=wj;have c1:=λh=>hcom t h ht
   cases hpt:p t with
   |false=>
    rw[hpt]at c1;unfold coC qp at c1;simp (disch:=omega) only[coC,qp,q1,go_sem]
    repeat' first|(refine cG (λe=>c1 _) flk ?_;simp (disch:=omega) only[go_sem])|with_reducible apply aiA|exact clz|fail
    refine hK2 _ _ (t+1) ⟨om,ht,λj h1 h2=> ?_⟩ om (Wk.temps ?_)
    ·by_cases e:j=t
     ·subst e;exact hpt
     ·exact t3 j h1 om
    ·(simp only[coC,go_sem,qg,qc,qb,qf];try exact we)
   |true=>
    rw[hpt]at c1;have hf:=fin λ_=>hpt
    unfold coC qp at c1
    by_cases gt:f<t
    ·have q2:((f:Int)<t)=True:=wj;rw[ipo gt]at hf;rw[hf]at i3;obtain⟨hdl,hxx⟩:=hat (pre:=pre) (r:=(f,t)) (rest:=kE p x.col.length D' (t+1)) i3;have hb':=body pre.length hh [] hdl i4;rw[hxx]at hb';have i5:qbs p x.col.length=(pre++ [(f,t)])++kE p x.col.length D' (t+1):=by rw[i3];simp
     simp (disch:=omega) only[coC,qp,q1,go_sem]
     repeat' first|(refine cG (λe=>c1 _) flk ?_;simp (disch:=omega) only[q2,go_sem])|with_reducible apply aiA|exact clz|fail
     ·exact⟨.ready,ts,LI,kp hlen⟩
     ·refine jP.mono ?_ hb';rintro v h' ⟨hh',⟨rfl,hn',rfl⟩|⟨st,rfl,hs',rfl⟩⟩
      ·simp (disch:=omega) only[go_sem];refine hK _ _ ⟨t+1,D',pre++ [(f,t)],hh'⟩ ⟨by simp only;omega,by simp only;omega,i5,by simp only[lap,lco,lnl];exact hn'⟩ (by simp only;omega) (Wk.temps ?_)
       (simp only[coC,go_sem,qg,qc,qb,qf];try exact we)
      ·simp (disch:=omega) only[go_sem];obtain⟨r1,r2⟩:=(hE _ _ hs').ret (L:=LI) st hts;exact ju trivial r1 r2 ⟨_,.inr ⟨st,hs',rfl⟩⟩ (qi)
    ·have q2:((f:Int)<t)=False:=wm;rw[ine gt,lna]at hf;rw[hf]at i3;simp (disch:=omega) only[coC,qp,q1,go_sem]
     repeat' first|(refine cG (λe=>c1 _) flk ?_;simp (disch:=omega) only[q2,go_sem])|with_reducible apply aiA|exact clz|fail
     refine hK _ _ ⟨t+1,D',pre,hh⟩ ⟨by simp only;omega,by simp only;omega,i3,i4⟩ (by simp only;omega) (Wk.temps ?_)
     (simp only[coC,go_sem,qg,qc,qb,qf];try exact we)
  ·have q1:((t:Int)<x.col.length)=False:=wm;have hf:=fin λhx=>absurd hx ht
   by_cases gt:f<t
   ·have q2:((f:Int)<t)=True:=wj;rw[ipo gt]at hf;rw[hf]at i3;obtain⟨hdl,hxx⟩:=hat (pre:=pre) (r:=(f,t)) (rest:=kE p x.col.length D' (t+1)) i3;have hb':=body pre.length hh [] hdl i4;rw[hxx]at hb';have i5:qbs p x.col.length=(pre++ [(f,t)])++kE p x.col.length D' (t+1):=by rw[i3];simp
    simp (disch:=omega) only[coC,qp,q1,go_sem]
    repeat' first|(refine qj ( .bool false) ?_;simp (disch:=omega) only[q2,go_sem])|with_reducible apply aiA|exact clz|fail
    ·exact⟨.ready,ts,LI,kp hlen⟩
    ·refine jP.mono ?_ hb';rintro v h' ⟨hh',⟨rfl,hn',rfl⟩|⟨st,rfl,hs',rfl⟩⟩
     ·simp (disch:=omega) only[go_sem];refine hK _ _ ⟨t+1,D',pre++ [(f,t)],hh'⟩ ⟨by simp only;omega,by simp only;omega,i5,by simp only[lap,lco,lnl];exact hn'⟩ (by simp only;omega) (Wk.temps ?_)
      (simp only[coC,go_sem,qg,qc,qb,qf];try exact we)
     ·simp (disch:=omega) only[go_sem];obtain⟨r1,r2⟩:=(hE _ _ hs').ret (L:=LI) st hts;exact ju trivial r1 r2 ⟨_,.inr ⟨st,hs',rfl⟩⟩ (qi)
   ·exact absurd (show f<t by omega) gt
 ·have q0:((f:Int)<x.col.length)=False:=wm;have hD:kE p x.col.length D f= []:=by
   cases D with
   |zero=>rfl
   |succ D=>unfold kE;rw[ipo om]
  rw[hD,lan]at i3;simp (disch:=omega) only[coC,qp,q0,go_sem]
  repeat' first|with_reducible apply aiA|exact clz|fail
  obtain⟨r1,r2⟩:=(hS _ _ i4).ret (L:=LI) .ready hts;exact ju trivial r1 r2 ⟨hh,.inl ⟨by rw[hxl,i3];exact i4,rfl⟩⟩ (qi)
structure qbx (l:List Un):Prop where
 n:l.length<=1000000000
 rd: ∀i,(l.getD i default).rds.length<=1000000000
 sr: ∀i j,((l.getD i default).rds.getD j default).src.length<=1000000000
 wd: ∀i j,((l.getD i default).rds.getD j default).words.length<=1000000000
structure qpl (L:List Rd):Prop where
 n:L.length<=1000000000
 sr: ∀j,(L.getD j default).src.length<=1000000000
 wd: ∀j,(L.getD j default).words.length<=1000000000
theorem qAR(a b:List Str)(h:wh)(h1:a.length<=1000000000)(h2:b.length<=1000000000):ACalls Tryz.prog 36 [strs a,strs b] h (.bool (decide (a=b))) h:=by
 have c:=qAS a b.length (λj=>b.getD j []) h h1 h2;have e:decide (a.length=b.length∧ ∀i,i<a.length->a.getD i []=b.getD i [])=decide (a=b):=decide_eq_decide.2 (Td ([]:Str)).symm;rw[e]at c;exact c
theorem qCq(a b:List Int)(h:wh)(h1:a.length<=1000000000)(h2:b.length<=1000000000):ACalls Tryz.prog 45 [qy a,qy b] h (.bool (decide (a=b))) h:=by
 have c:=qAQ qxW a.length b.length (λj=> .i (a.getD j 0)) (λj=> .i (b.getD j 0)) h (λ_ _ _=>rfl) om om;simp only[At.v,At.i.injEq]at c;have e:decide (a.length=b.length∧ ∀i,i<a.length->a.getD i 0=b.getD i 0)=decide (a=b):=decide_eq_decide.2 (Td (0:Int)).symm;rw[e]at c;exact c
theorem qBJ{r s:Rd}:r=s↔r.words=s.words∧r.src=s.src:=by
 cases r;cases s;simp
theorem qDG(r s:Rd)(h:wh)(h1:r.words.length<=1000000000)(h2:s.words.length<=1000000000)(h3:r.src.length<=1000000000)(h4:s.src.length<=1000000000):ACalls Tryz.prog 238 [.agg (rdC r),.agg (rdC s)] h (.bool (decide (r=s))) h:=by
 have c1:=λh=>qAR r.words s.words h h1 h2
 have c2:=λh=>qCq r.src s.src h h3 h4
 have e:decide (r=s)=(decide (r.words=s.words)&&decide (r.src=s.src)):=by rw[<-Bool.decide_and];exact decide_eq_decide.2 qBJ
 rw[e];obtain⟨a,ha⟩:=wg (decide (r.words=s.words))
 obtain⟨b,hb⟩:=wg (decide (r.src=s.src))
 rw[<-ha,<-hb];simp only[<-ha]at c1;simp only[<-hb]at c2;cases a with
 |true=>
  rw[Bool.true_and];refine acO qpN ?_;simp (disch:=omega) only[qqQ,rdC,go_sem]
  repeat' first|((first|refine cA (c1 _) ?_ ?_|refine cG (λe=>c2 _) ?_ ?_);exact flk;simp (disch:=omega) only[go_sem])|exact wa|with_reducible apply aiA|exact clz|fail
 |false=>
  rw[Bool.false_and];refine acO qpN ?_;simp (disch:=omega) only[qqQ,rdC,go_sem]
  repeat' first|(refine qj ( .bool false) ?_;simp (disch:=omega) only[go_sem])|(refine cA (c1 _) flk ?_;simp (disch:=omega) only[go_sem])|exact wa|fail
theorem efP(a b:List Rd)(h:wh)(za:qpl a)(zb:qpl b):ACalls Tryz.prog 237 [kf a,kf b,.fn (.func 238) [] []] h (.bool (decide (a=b))) h:=by
 have ha:=za.n;have hb:=zb.n;have he:decide (a=b)=decide (a.length=b.length∧ ∀i,i<a.length->a.getD i default=b.getD i default):=decide_eq_decide.2 (Td (default:Rd));obtain⟨R,hR⟩:=wg (decide (a=b))
 rw[<-hR]at he ⊢
 by_cases g:a.length=b.length
 case neg=>
  have k1:((a.length:Int)=b.length)=False:=wm;rw[dqf (λhc=>g hc.1)]at he;rw[he];refine acO qpM ?_;simp (disch:=omega) only[qqP,kf,k1,go_sem]
  repeat' first|exact wa|fail
 have k1:((a.length:Int)=b.length)=True:=wj;refine acO qpM ?_;simp (disch:=omega) only[qqP,kf,k1,go_sem];refine qu (T:=λi:Nat×AObj×AObj=>zf 32 [(1,kf b),(2,.fn (.func 238) [] []),(15,kf a),(16,.int .i64 a.length),(17,.int .i64 i.1)]) (H:=λi=>h++ [i.2.1,i.2.2])
  (inv:=λi=>i.1<=a.length∧qJ [i.2.1] 0=true∧qJ [i.2.2] 0=true∧ ∀j,j<i.1->a.getD j default=b.getD j default) (m:=λi=>a.length-i.1) (0,.emp 0,.emp 0) ⟨nzl _,rfl,rfl,λj hj=>absurd hj (nnz j)⟩ (Wk.temps ?_) ?_
 ·(simp only[kf,go_sem,qg,qc,qb,qf];try exact we)
 rintro⟨i,O1,O2⟩ ⟨i1,j1,j2,i2⟩ K hK;simp only at i1 j1 j2 i2 hK;have j1': ∀m,qJ (O1::m) 0=true:=λ_=>j1
 have j2': ∀m,qJ (O2::m) 0=true:=λ_=>j2
 by_cases hi:i<a.length
 ·have k2:((i:Int)<a.length)=True:=wj;have k3:((i:Int)<b.length)=True:=wj;have c1:=λh=>qDG (a.getD i default) (b.getD i default) h (za.wd i) (zb.wd i) (za.sr i) (zb.sr i)
  have hno: ¬a.getD i default=b.getD i default->R=false:=λhx=>by rw[he];exact dqf λhc=>hx (hc.2 i hi)
  have hS:a.getD i default=b.getD i default-> ∀j,j<i+1->a.getD j default=b.getD j default:=λhx j hj=>by
   by_cases e:j=i
   ·subst e;exact hx
   ·exact i2 j om
  obtain⟨r,hr⟩:=wg (a.getD i default)
  obtain⟨s,hs⟩:=wg (b.getD i default)
  have er:=hr.symm;have es:=hs.symm;rw[er,es]at hno hS;simp only[er,es]at c1;unfold rdC at c1
  by_cases g2:r=s
  ·have k4:decide (r=s)=true:=dqt g2;simp only[k4]at c1;simp (disch:=omega) only[kf,rdC,k2,k3,er,es,j1',j2',go_sem]
   repeat' first|(refine qE (c1 _) ?_;simp (disch:=omega) only[go_sem])|with_reducible apply aiA|exact clz|fail
   refine hK _ _ (i+1,_,_) ⟨hi,rfl,rfl,hS g2⟩ (by simp only;omega) (Wk.temps ?_)
   (simp only[kf,go_sem,qg,qc,qb,qf];try exact we)
  ·have k4:decide (r=s)=false:=dqf g2;simp only[k4]at c1;rw[hno g2];simp (disch:=omega) only[kf,rdC,k2,k3,er,es,j1',j2',go_sem]
   repeat' first|(refine qE (c1 _) ?_;simp (disch:=omega) only[go_sem])|exact wa|with_reducible apply aiA|exact clz|fail
 ·have k2:((i:Int)<a.length)=False:=wm;rw[he,dqt ⟨g,λj hj=>i2 j om⟩];simp (disch:=omega) only[kf,k2,go_sem]
  repeat' first|exact wa|fail
theorem qDH(a b:List Rd)(h:wh)(za:qpl a)(zb:qpl b):ACalls Tryz.prog 177 [kf a,kf b] h (.bool (decide (a=b))) h:=by
 have c1:=λh=>efP a b h za zb
 refine acO qw4 ?_;simp (disch:=omega) only[qvg,go_sem]
 repeat' first|(refine cA (c1 _) flk ?_;simp (disch:=omega) only[go_sem])|exact wc|fail
theorem qDy(r s:Rd)(h:wh)(h1:r.words.length<=1000000000)(h2:s.words.length<=1000000000):ACalls Tryz.prog 148 [.agg (rdC r),.agg (rdC s)] h (.bool (decide (r.words=s.words))) h:=by
 have c1:=λh=>qAR r.words s.words h h1 h2
 refine acO qwU ?_;simp (disch:=omega) only[qu7,rdC,go_sem]
 repeat' first|(refine cA (c1 _) flk ?_;simp (disch:=omega) only[go_sem])|exact wa|fail
theorem fd1(r y:Rd)(h:wh)(h1:r.words.length<=1000000000)(h2:y.words.length<=1000000000):ACalls Tryz.prog 195 [.agg (rdC y),.ip [.fn (.func 148) [] []],.ip (rdC r)] h (.bool (decide (r.words=y.words))) h:=by
 have c1:=λh=>qDy r y h h1 h2
 unfold rdC at c1;refine acO qxh ?_;simp (disch:=omega) only[qvr,rdC,go_sem]
 repeat' first|(refine qE (c1 _) ?_;simp (disch:=omega) only[go_sem])|exact wa|with_reducible apply aiA|exact clz|fail
theorem fdP(L:List Rd)(r:Rd)(h:wh)(hL:L.length<=1000000000)(h1:r.words.length<=1000000000)(h2: ∀j,(L.getD j default).words.length<=1000000000):ACalls Tryz.prog 147 [kf L,.agg (rdC r),.fn (.func 148) [] []] h (.int .i64 (qg9 L r.words)) h:=by
 have c1: ∀k v k2 v2 H,qr k H=some (.mem v 97 (rdC r))->qr k2 H=some (.mem v2 192 [.fn (.func 148) [] []])->
   ACalls Tryz.prog 102 [kf L,.fn (.func 195) [] [.op k2 v2 0,.op k v 0]] H (.int .i64 (qg9 L r.words)) H:=λk v k2 v2 H hk hk2=>by
  have hc:=qG hk;have hc2:=qG hk2;unfold kf qg9;refine qbP qpA L.length (λj=>rdC (L.getD j default)) (λj=> .agg (rdC (L.getD j default))) _ [] [.op k2 v2 0,.op k v 0] _ H (λi _=>⟨rfl,by simp[jU,rdC],rfl,rfl,rfl⟩) (λi _=> ?_) om;refine ACalls.borrow ?_ rfl;have e:([AV.agg (rdC (L.getD i default))]++ [AV.op k2 v2 0,AV.op k v 0]).map (rei (λ_=>true) H 8)= [.agg (rdC (L.getD i default)),.ip [.fn (.func 148) [] []],.ip (rdC r)]:=by
   simp only[lca,lna,List.map_cons,List.map_nil,rei_op,if_true,hc,hc2,ipOf_some,List.drop_zero,rei_agg];rfl
  rw[lna,e];exact fd1 r _ _ h1 (h2 i)
 have c2:=c1 h.length 1 (h.length+1) 1 (h++ [.mem 1 97 (rdC r),.mem 1 192 [.fn (.func 148) [] []]]) (by rw[getO_app0];rfl) (by simp only[go_sem]);unfold rdC at c2;refine acO qwT ?_;simp (disch:=omega) only[qu6,rdC,go_sem]
 repeat' first|(refine cA (c2) flk ?_;simp (disch:=omega) only[go_sem])|exact wa|fail
def gnB(sec:Str)(sig:List Str):Bool:=jp (λi=>decide (20<(sig.getD i []).length)) sig.length||decide (20<sec.length)
theorem gnP(sec:Str)(sig:List Str)(h:wh)(hn:sig.length<=9223372036854775807):ACalls Tryz.prog 86 [.str sec,strs sig] h (.bool (gnB sec sig)) h:=by
 obtain⟨R,hR⟩:=wg (gnB sec sig)
 rw[<-hR];unfold gnB at hR;refine acO qBe ?_;simp (disch:=omega) only[qCk,strs,go_sem];refine qu (T:=λi:Nat=>zf 21 [(0,.str sec),(1,strs sig),(5,.int .i64 i)]) (H:=λ_=>h) (inv:=λi=>i<=sig.length∧ ∀j,j<i->(λi=>decide (20<(sig.getD i []).length)) j=false) (m:=λi=>sig.length-i) 0 ⟨nzl _,λj hj=>absurd hj (nnz j)⟩ (Wk.temps ?_) ?_
 ·(simp only[strs,go_sem,qg,qc,qb,qf];try exact we)
 rintro i ⟨i1,i2⟩ K hK
 by_cases hi:i<sig.length
 ·have k1:((i:Int)<sig.length)=True:=wj
  by_cases g:20<(sig.getD i []).length
  ·have hV:R=true:=by rw[hR,qR.2 ⟨i,hi,dqt g⟩];rfl
   obtain⟨s,hs⟩:=wg (sig.getD i [])
   have es:=hs.symm;rw[es]at g;have k2:((20:Int)<s.length)=True:=wj;rw[hV];simp (disch:=omega) only[strs,k1,k2,es,go_sem]
   repeat' first|exact wc|with_reducible apply aiA|exact clz|fail
  ·have i3:=SA i2 (dqf g);obtain⟨s,hs⟩:=wg (sig.getD i [])
   have es:=hs.symm;rw[es]at g;have k2:((20:Int)<s.length)=False:=wm;simp (disch:=omega) only[strs,k1,k2,es,go_sem]
   repeat' first|with_reducible apply aiA|exact clz|fail
   refine hK _ _ (i+1) ⟨hi,i3⟩ om (Wk.temps ?_)
   (simp only[strs,go_sem,qg,qc,qb,qf];try exact we)
 have k1:((i:Int)<sig.length)=False:=wm;rw[qt.2 (λj hj=>i2 j om),Bool.false_or]at hR;have e1:decide ((20:Int)<sec.length)=decide (20<sec.length):=decide_eq_decide.2 om;rw[hR,<-e1];simp (disch:=omega) only[strs,k1,go_sem]
 repeat' first|exact wc|fail
def UF(t:Tk):Bool:=decide (12<t.text.length)||(decide (12<t.norm.length)||(decide (20<t.page.length)||decide (20<t.name.length)))
def qaS(i:Nat)(r:List Tk):Bool:=decide (6<r.length)||((decide (4<=i)&&decide (1<r.length))||jp (λk=>UF (r.getD k default)) r.length)
def prN(L:List (List Tk)):Nat->Nat
 |0=>1
 |i+1=>if i<4 then prN L i*((L.getD i []).length+1) else prN L i
def gtB(L:List (List Tk)):Bool:=jp (λi=>qaS i (L.getD i [])) L.length||(decide (400<prN L L.length)||((decide (6<L.length)&&decide (L.length<=32))||decide (34<L.length)))
theorem qyO{L:List (List Tk)}: ∀ {n:Nat},(∀i,i<n->(L.getD i []).length<=6)->prN L n<=7^min n 4:=by
 intro n
 induction n with
 |zero=>intro _;exact nlr _
 |succ n ih=>
  intro h;have h1:=ih λi hi=>h i om
  have h2:=h n om;unfold prN;split
  ·rename_i g;rw[show min n 4=n by omega]at h1;rw[show min (n+1) 4=n+1 by omega,Nat.pow_succ];exact Nat.mul_le_mul h1 om
  ·rename_i g;rw[show min n 4=4 by omega]at h1;rw[show min (n+1) 4=4 by omega];exact h1
theorem gtP(L:List (List Tk))(h:wh)(hn:L.length<=9223372036854775807):ACalls Tryz.prog 85 [qm L] h (.bool (gtB L)) h:=by
 obtain⟨R,hR⟩:=wg (gtB L)
 rw[<-hR];unfold gtB at hR;refine acO qBd ?_;simp (disch:=omega) only[qCj,qm,go_sem];refine qu (T:=λi:Nat×AObj=>zf 97 [(0,qm L),(3,.int .i64 (prN L i.1:Int)),(4,.int .i64 i.1)]) (H:=λi=>h++ [i.2]) (inv:=λi=>i.1<=L.length∧qJ [i.2] 0=true∧ ∀j,j<i.1->(λi=>qaS i (L.getD i [])) j=false) (m:=λi=>L.length-i.1) (0,.emp 0) ⟨nzl _,rfl,λj hj=>absurd hj (nnz j)⟩ (Wk.temps ?_) ?_
 ·(simp only[qm,prN,go_sem,qg,qc,qb,qf];try exact we)
 rintro⟨i,O⟩ ⟨i1,i2,i3⟩ K hK;simp only at i1 i2 i3 hK;have i2': ∀m,qJ (O::m) 0=true:=λ_=>i2
 have h6: ∀j,j<i->(L.getD j []).length<=6:=λj hj=>by
  have:=i3 j hj
  unfold qaS at this;simp only[Bool.or_eq_false_iff,decide_eq_false_iff_not]at this;omega
 have hp:=qyO h6;have hp2:prN L i<=2401:=by
  have:7^min i 4<=7^4:=Nat.pow_le_pow_right om (Nat.min_le_right _ _)
  have h3:(7:Nat)^4=2401:=rfl;omega
 have hst:prN L (i+1)=if i<4 then prN L i*((L.getD i []).length+1) else prN L i:=rfl
 obtain⟨q,hq⟩:=wg (prN L i)
 have eq:=hq.symm;rw[eq]at hp2 hst
 by_cases hi:i<L.length
 ·have k1:((i:Int)<L.length)=True:=wj;have hit:qaS i (L.getD i [])=true->R=true:=λhc=>by rw[hR,qR.2 ⟨i,hi,hc⟩];rfl
  have i4:=λhc=>SA (p:=λi=>qaS i (L.getD i [])) i3 hc
  obtain⟨r,hr⟩:=wg (L.getD i [])
  have er:=hr.symm;rw[er]at hst hit;simp only[er]at i4;have hB:qaS i r=(decide (6<r.length)||((decide (4<=i)&&decide (1<r.length))||jp (λk=>UF (r.getD k default)) r.length)):=rfl
  by_cases g1:6<r.length
  ·have k2:((6:Int)<r.length)=True:=wj;rw[hit (by rw[hB,dqt g1];rfl)];simp (disch:=omega) only[qm,zT,k1,k2,er,eq,go_sem]
   repeat' first|exact wa|(with_reducible first|intro _|apply aiA)|exact clz|fail
  have k2:((6:Int)<r.length)=False:=wm;rw[dqf g1,Bool.false_or]at hB;have hq':q*(r.length+1)<=2401*7:=Nat.mul_le_mul hp2 om;have hmul:(q:Int)*((r.length:Int)+1)=((q*(r.length+1):Nat):Int):=by push_cast;rfl
  have m2:(((q*(r.length+1):Nat):Int)<=9223372036854775807)=True:=wj;have m3:(-9223372036854775808<=((q*(r.length+1):Nat):Int))=True:=wj
  by_cases gg:4<=i∧1<r.length
  ·have k3:((4:Int)<=i)=True:=wj;have k5:((1:Int)<r.length)=True:=wj;rw[hit (by rw[hB,dqt gg.1,dqt gg.2];rfl)];simp (disch:=omega) only[qm,zT,k1,k2,k3,k5,er,eq,go_sem]
   repeat' first|exact wa|with_reducible apply aiA|exact clz|fail
  have hB':qaS i r=jp (λk=>UF (r.getD k default)) r.length:=by
   rw[hB]
   have:(decide (4<=i)&&decide (1<r.length))=false:=by
    rw[<-Bool.decide_and];exact dqf gg
   rw[this,Bool.false_or]
  rcases Nat.lt_or_ge i 4 with gi|gi
  ·have k3:((4:Int)<=i)=False:=wm;have k4:((i:Int)<4)=True:=wj;rw[ipo gi]at hst;simp (disch:=omega) only[qm,zT,k1,k2,k3,k4,er,eq,hmul,go_sem]
   repeat' first|(apply qa;exact rvk;simp only[go_sem];apply qd)|(with_reducible first|intro _|apply aiA)|exact clz|fail
   refine qu (T:=λk:Nat×AObj=>zf 97 [(0,qm L),(3,.int .i64 ((q*(r.length+1):Nat):Int)),(4,.int .i64 i),(5,.int .i64 k.1)]) (H:=λk=>h++ [k.2]) (inv:=λk=>k.1<=r.length∧qJ [k.2] 0=true∧ ∀j,j<k.1->(λk=>UF (r.getD k default)) j=false) (m:=λk=>r.length-k.1) (0,O) ⟨nzl _,i2,λj hj=>absurd hj (nnz j)⟩ (Wk.temps ?_) ?_
   ·(simp only[qm,go_sem,qg,qc,qb,qf];try exact we)
   rintro⟨k,O'⟩ ⟨u1,u2,u3⟩ K2 hK2;simp only at u1 u2 u3 hK2;have u2': ∀m,qJ (O'::m) 0=true:=λ_=>u2
   by_cases hk:k<r.length
   ·have t1:((k:Int)<r.length)=True:=wj;have hbit:UF (r.getD k default)=true->R=true:=λhc=>hit (by rw[hB',qR];exact⟨k,hk,hc⟩)
    have u4:=λhc=>SA (p:=λk=>UF (r.getD k default)) u3 hc
    obtain⟨t,ht⟩:=wg (r.getD k default)
    have et:=ht.symm;rw[et]at hbit;simp only[et]at u4;have hT:UF t=(decide (12<t.text.length)||(decide (12<t.norm.length)||(decide (20<t.page.length)||decide (20<t.name.length)))):=rfl
    by_cases gA:12<t.text.length
    ·have qA:((12:Int)<t.text.length)=True:=wj;rw[hbit (by rw[hT,dqt gA];simp)];simp (disch:=omega) only[qm,zT,tkC,k1,t1,er,et,u2',qA,go_sem]
     repeat' first|exact wa|with_reducible apply aiA|exact clz|fail
    have qA:((12:Int)<t.text.length)=False:=wm
    by_cases gB:12<t.norm.length
    ·have qB:((12:Int)<t.norm.length)=True:=wj;rw[hbit (by rw[hT,dqt gB];simp)];simp (disch:=omega) only[qm,zT,tkC,k1,t1,er,et,u2',qA,qB,go_sem]
     repeat' first|exact wa|with_reducible apply aiA|exact clz|fail
    have qB:((12:Int)<t.norm.length)=False:=wm
    by_cases gC:20<t.page.length
    ·have qC:((20:Int)<t.page.length)=True:=wj;rw[hbit (by rw[hT,dqt gC];simp)];simp (disch:=omega) only[qm,zT,tkC,k1,t1,er,et,u2',qA,qB,qC,go_sem]
     repeat' first|exact wa|with_reducible apply aiA|exact clz|fail
    have qC:((20:Int)<t.page.length)=False:=wm
    by_cases gD:20<t.name.length
    ·have qD:((20:Int)<t.name.length)=True:=wj;rw[hbit (by rw[hT,dqt gD];simp)];simp (disch:=omega) only[qm,zT,tkC,k1,t1,er,et,u2',qA,qB,qC,qD,go_sem]
     repeat' first|exact wa|with_reducible apply aiA|exact clz|fail
    have qD:((20:Int)<t.name.length)=False:=wm;simp (disch:=omega) only[qm,zT,tkC,k1,t1,er,et,u2',qA,qB,qC,qD,go_sem]
    repeat' first|with_reducible apply aiA|exact clz|fail
    refine hK2 _ _ (k+1,_) ⟨hk,rfl,u4 (by rw[hT,dqf gA,dqf gB,dqf gC,dqf gD];rfl)⟩ (by simp only;omega) (Wk.temps ?_)
    (simp only[qm,zT,tkC,go_sem,qg,qc,qb,qf];try exact we)
   ·have t1:((k:Int)<r.length)=False:=wm;have hz:qaS i r=false:=by rw[hB',qt];exact λj hj=>u3 j om
    simp (disch:=omega) only[qm,zT,t1,er,go_sem]
    repeat' first|with_reducible apply aiA|exact clz|fail
    refine hK _ _ (i+1,O') ⟨hi,u2,i4 hz⟩ (by simp only;omega) ?_;simp only[hst];refine Wk.temps ?_
    (simp only[qm,go_sem,qg,qc,qb,qf];try exact we)
  ·have k3:((4:Int)<=i)=True:=wj;have k4:((i:Int)<4)=False:=wm;have k5:((1:Int)<r.length)=False:=wm;rw[ine om]at hst;simp (disch:=omega) only[qm,zT,k1,k2,k3,k4,k5,er,eq,hmul,go_sem]
   repeat' first|with_reducible apply aiA|exact clz|fail
   refine qu (T:=λk:Nat×AObj=>zf 97 [(0,qm L),(3,.int .i64 (q:Int)),(4,.int .i64 i),(5,.int .i64 k.1)]) (H:=λk=>h++ [k.2]) (inv:=λk=>k.1<=r.length∧qJ [k.2] 0=true∧ ∀j,j<k.1->(λk=>UF (r.getD k default)) j=false) (m:=λk=>r.length-k.1) (0,O) ⟨nzl _,i2,λj hj=>absurd hj (nnz j)⟩ (Wk.temps ?_) ?_
   ·(simp only[qm,go_sem,qg,qc,qb,qf];try exact we)
   rintro⟨k,O'⟩ ⟨u1,u2,u3⟩ K2 hK2;simp only at u1 u2 u3 hK2;have u2': ∀m,qJ (O'::m) 0=true:=λ_=>u2
   by_cases hk:k<r.length
   ·have t1:((k:Int)<r.length)=True:=wj;have hbit:UF (r.getD k default)=true->R=true:=λhc=>hit (by rw[hB',qR];exact⟨k,hk,hc⟩)
    have u4:=λhc=>SA (p:=λk=>UF (r.getD k default)) u3 hc
    obtain⟨t,ht⟩:=wg (r.getD k default)
    have et:=ht.symm;rw[et]at hbit;simp only[et]at u4;have hT:UF t=(decide (12<t.text.length)||(decide (12<t.norm.length)||(decide (20<t.page.length)||decide (20<t.name.length)))):=rfl
    by_cases gA:12<t.text.length
    ·have qA:((12:Int)<t.text.length)=True:=wj;rw[hbit (by rw[hT,dqt gA];simp)];simp (disch:=omega) only[qm,zT,tkC,k1,t1,er,et,u2',qA,go_sem]
     repeat' first|exact wa|with_reducible apply aiA|exact clz|fail
    have qA:((12:Int)<t.text.length)=False:=wm
    by_cases gB:12<t.norm.length
    ·have qB:((12:Int)<t.norm.length)=True:=wj;rw[hbit (by rw[hT,dqt gB];simp)];simp (disch:=omega) only[qm,zT,tkC,k1,t1,er,et,u2',qA,qB,go_sem]
     repeat' first|exact wa|with_reducible apply aiA|exact clz|fail
    have qB:((12:Int)<t.norm.length)=False:=wm
    by_cases gC:20<t.page.length
    ·have qC:((20:Int)<t.page.length)=True:=wj;rw[hbit (by rw[hT,dqt gC];simp)];simp (disch:=omega) only[qm,zT,tkC,k1,t1,er,et,u2',qA,qB,qC,go_sem]
     repeat' first|exact wa|with_reducible apply aiA|exact clz|fail
    have qC:((20:Int)<t.page.length)=False:=wm
    by_cases gD:20<t.name.length
    ·have qD:((20:Int)<t.name.length)=True:=wj;rw[hbit (by rw[hT,dqt gD];simp)];simp (disch:=omega) only[qm,zT,tkC,k1,t1,er,et,u2',qA,qB,qC,qD,go_sem]
     repeat' first|exact wa|with_reducible apply aiA|exact clz|fail
    have qD:((20:Int)<t.name.length)=False:=wm;simp (disch:=omega) only[qm,zT,tkC,k1,t1,er,et,u2',qA,qB,qC,qD,go_sem]
    repeat' first|with_reducible apply aiA|exact clz|fail
    refine hK2 _ _ (k+1,_) ⟨hk,rfl,u4 (by rw[hT,dqf gA,dqf gB,dqf gC,dqf gD];rfl)⟩ (by simp only;omega) (Wk.temps ?_)
    (simp only[qm,zT,tkC,go_sem,qg,qc,qb,qf];try exact we)
   ·have t1:((k:Int)<r.length)=False:=wm;have hz:qaS i r=false:=by rw[hB',qt];exact λj hj=>u3 j om
    simp (disch:=omega) only[qm,zT,t1,er,go_sem]
    repeat' first|with_reducible apply aiA|exact clz|fail
    refine hK _ _ (i+1,O') ⟨hi,u2,i4 hz⟩ (by simp only;omega) ?_;simp only[hst];refine Wk.temps ?_
    (simp only[qm,go_sem,qg,qc,qb,qf];try exact we)
 have k1:((i:Int)<L.length)=False:=wm;obtain rfl:i=L.length:=by omega
 rw[qt.2 (λj hj=>i3 j hj),Bool.false_or,<-hq]at hR
 by_cases g1:400<q
 ·have k2:((400:Int)<q)=True:=wj;rw[hR,dqt g1,Bool.true_or];simp (disch:=omega) only[qm,k1,k2,eq,go_sem]
  repeat' first|exact wa|fail
 have k2:((400:Int)<q)=False:=wm;rw[dqf g1,Bool.false_or]at hR
 by_cases g2:6<L.length
 ·have k3:((6:Int)<L.length)=True:=wj
  by_cases g3:L.length<=32
  ·have k4:((L.length:Int)<=32)=True:=wj;rw[hR,dqt g2,dqt g3];simp (disch:=omega) only[qm,k1,k2,k3,k4,eq,go_sem]
   repeat' first|exact wa|fail
  have k4:((L.length:Int)<=32)=False:=wm;have e1:decide ((34:Int)<L.length)=decide (34<L.length):=decide_eq_decide.2 om;rw[hR,dqt g2,dqf g3,<-e1];simp (disch:=omega) only[qm,k1,k2,k3,k4,eq,go_sem]
  repeat' first|exact wa|fail
 have k3:((6:Int)<L.length)=False:=wm;have e1:decide ((34:Int)<L.length)=decide (34<L.length):=decide_eq_decide.2 om;rw[hR,dqf g2,<-e1];simp (disch:=omega) only[qm,k1,k2,k3,eq,go_sem]
 repeat' first|exact wa|fail
structure CoB (x:Co):Prop where
 sg:x.sig.length<=9223372036854775807
 tk:x.tok.length<=9223372036854775807
 cl:x.col.length<=9223372036854775807
def qpX(x:Co):Bool:=jp (λi=>decide (36<(x.col.getD i []).length)) x.col.length||(gtB x.tok||(decide (24<x.col.length)||(decide (36<x.sig.length)||gnB x.sec x.sig)))
theorem qDb(x:Co)(h:wh)(hb:CoB x):ACalls Tryz.prog 28 [.agg (coC x)] h (.bool (qpX x)) h:=by
 have c1:=λh=>gtP x.tok h hb.tk
 have c2:=λh=>gnP x.sec x.sig h hb.sg
 have hc:=hb.cl;obtain⟨R,hR⟩:=wg (qpX x)
 rw[<-hR];unfold qpX at hR;unfold qm at c1;unfold strs at c2;refine acO qA4 ?_;simp (disch:=omega) only[qCe,coC,qp,go_sem];refine qu (T:=λi:Nat=>zf 40 [(1,.op h.length 1 0),(3,.int .i64 i)]) (H:=λ_=>h++ [.mem 1 26 (coC x)]) (inv:=λi=>i<=x.col.length∧ ∀j,j<i->(λi=>decide (36<(x.col.getD i []).length)) j=false) (m:=λi=>x.col.length-i) 0 ⟨nzl _,λj hj=>absurd hj (nnz j)⟩ (Wk.temps ?_) ?_
 ·(simp only[go_sem,qg,qc,qb,qf];try exact we)
 rintro i ⟨i1,i2⟩ K hK
 by_cases hi:i<x.col.length
 ·have k1:((i:Int)<x.col.length)=True:=wj
  by_cases g:36<(x.col.getD i []).length
  ·have hV:R=true:=by rw[hR,qR.2 ⟨i,hi,dqt g⟩];rfl
   obtain⟨s,hs⟩:=wg (x.col.getD i [])
   have es:=hs.symm;rw[es]at g;have k2:((36:Int)<s.length)=True:=wj;rw[hV];simp (disch:=omega) only[coC,qp,qy,k1,k2,es,go_sem]
   repeat' first|exact wa|with_reducible apply aiA|exact clz|fail
  ·have i3:=SA i2 (dqf g);obtain⟨s,hs⟩:=wg (x.col.getD i [])
   have es:=hs.symm;rw[es]at g;have k2:((36:Int)<s.length)=False:=wm;simp (disch:=omega) only[coC,qp,qy,k1,k2,es,go_sem]
   repeat' first|with_reducible apply aiA|exact clz|fail
   refine hK _ _ (i+1) ⟨hi,i3⟩ om (Wk.temps ?_)
   (simp only[go_sem,qg,qc,qb,qf];try exact we)
 have k1:((i:Int)<x.col.length)=False:=wm;rw[qt.2 (λj hj=>i2 j om),Bool.false_or]at hR;cases gA:gtB x.tok with
 |true=>
  rw[gA]at hR c1;rw[hR,Bool.true_or];simp (disch:=omega) only[coC,qp,k1,qm,go_sem]
  repeat' first|(refine qj ( .bool false) ?_;simp (disch:=omega) only[go_sem])|(refine cA (c1 _) flk ?_;simp (disch:=omega) only[go_sem])|exact wa|with_reducible apply aiA|exact clz|fail
 |false=>
 rw[gA]at hR c1;rw[Bool.false_or]at hR
 by_cases g2:24<x.col.length
 ·have k2:((24:Int)<x.col.length)=True:=wj;rw[hR,dqt g2,Bool.true_or];simp (disch:=omega) only[coC,qp,k1,qm,go_sem]
  repeat' first|(refine qj ( .bool false) ?_;simp (disch:=omega) only[go_sem])|(refine cA (c1 _) flk ?_;simp (disch:=omega) only[k2,go_sem])|exact wa|with_reducible apply aiA|exact clz|fail
 have k2:((24:Int)<x.col.length)=False:=wm;rw[dqf g2,Bool.false_or]at hR
 by_cases g3:36<x.sig.length
 ·have k3:((36:Int)<x.sig.length)=True:=wj;rw[hR,dqt g3,Bool.true_or];simp (disch:=omega) only[coC,qp,k1,qm,strs,go_sem]
  repeat' first|(refine qj ( .bool false) ?_;simp (disch:=omega) only[go_sem])|(refine cA (c1 _) flk ?_;simp (disch:=omega) only[k2,k3,go_sem])|exact wa|with_reducible apply aiA|exact clz|fail
 have k3:((36:Int)<x.sig.length)=False:=wm;rw[dqf g3,Bool.false_or]at hR;rw[hR];simp (disch:=omega) only[coC,qp,k1,qm,strs,go_sem]
 repeat' first|((first|refine cA (c1 _) ?_ ?_|refine cG (λe=>c2 _) ?_ ?_);exact flk;simp (disch:=omega) only[k2,k3,go_sem])|exact wa|with_reducible apply aiA|exact clz|fail
def guR(u:Un)(k:Nat):Bool:=decide (8<(u.rds.getD k default).src.length)||gwB (u.rds.getD k default).words 8
def guB(u:Un):Bool:=decide (6<u.rds.length)||jp (guR u) u.rds.length
def qBj(l:List Un):Bool:=jp (λi=>guB (l.getD i default)) l.length||decide (12<l.length)
end RC
end
section
open Go Go.Proofs AF
def qrS:List Nat:= []
def qz4:C:=
 (vU [O1 2 (.box 0 26) 0,vO 4 0] ((vU [O1 5 (.load (some 4)) 2,O1 6 (.call 67 true) 5,vP 7 .neq 6 0] (vV 7 (vX [vO 4 1]))).seq ((vU [O1 8 (.load (some 4)) 2,MV 9 1,O2 10 (.call
 69 true) 8 9,vP 11 .neq 10 0] (vV 11 (vX [vO 4 20]))).seq (vX [vO 4 0]))))
theorem qrG:qM Tryz.prog 75 12 1 [RV.tmp 4] qz4:=fi Tryz.f75 [2] qrS []
end
section
open Go Go.Proofs AF HY LN
namespace RC
def qra(L:List (List Str)):AV:= .sl L.length λi=> [strs (L.getD i [])]
def qqE(L:List Bool):AV:= .sl L.length λi=> [.bool (L.getD i false)]
theorem flag_clsV(L:List (List Str)):(qra L).flag=true:=rfl
theorem strip_clsV(L:List (List Str)):(qra L).strip=qra L:=rfl
theorem flag_bolV(L:List Bool):(qqE L).flag=true:=rfl
theorem strip_bolV(L:List Bool):(qqE L).strip=qqE L:=rfl
section
variable {fz : Nat -> Bool} {h : wh} {n : Nat}
theorem rei_clsV(L:List (List Str)):rei fz h (n+1) (qra L)=qra L:=rfl
theorem rei_bolV(L:List Bool):rei fz h (n+1) (qqE L)=qqE L:=rfl
theorem frz_clsV(L:List (List Str)):frz fz h (n+1) (qra L)=qra L:=rfl
theorem frz_bolV(L:List Bool):frz fz h (n+1) (qqE L)=qqE L:=rfl
end
attribute [go_sem] flag_clsV strip_clsV flag_bolV strip_bolV rei_clsV rei_bolV frz_clsV frz_bolV
theorem jf{α:Type}{d:α}(L:List α)(P:α->Prop)(hd:P d)(h: ∀i,i<L.length->P (L.getD i d)): ∀i,P (L.getD i d):=by
 intro i
 by_cases hi:i<L.length
 ·exact h i hi
 ·rw[gdqA,List.getElem?_eq_none om];exact hd
theorem qjh{x:Co}(h:qpX x=false):qaN x∧x.col.length<=24∧x.sig.length<=36:=by
 unfold qpX at h;rw[Bool.or_eq_false_iff,Bool.or_eq_false_iff,Bool.or_eq_false_iff,Bool.or_eq_false_iff,qt,decide_eq_false_iff_not,decide_eq_false_iff_not]at h;obtain⟨h1,h2,h3,h4,h5⟩:=h;unfold gtB at h2;rw[Bool.or_eq_false_iff,qt,Bool.or_eq_false_iff,Bool.or_eq_false_iff,decide_eq_false_iff_not,decide_eq_false_iff_not]at h2;obtain⟨t1,t2,t3,t4⟩:=h2;unfold gnB at h5;rw[Bool.or_eq_false_iff,qt,decide_eq_false_iff_not]at h5;obtain⟨n1,n2⟩:=h5;have hrow: ∀i,i<x.tok.length->(x.tok.getD i []).length<=6∧ ∀j,j<(x.tok.getD i []).length->UF ((x.tok.getD i []).getD j default)=false:=λi hi=>by
  have:=t1 i hi
  unfold qaS at this;rw[Bool.or_eq_false_iff,Bool.or_eq_false_iff,decide_eq_false_iff_not,qt]at this;exact⟨om,this.2.2⟩
 have hd0:qpm (default:Tk):=⟨by decide,by decide,by decide,by decide⟩
 refine⟨⟨om,om,?_,om,?_,?_,om,?_⟩,om,om⟩
 ·exact jf x.sig (λs=>s.length<=1000000000) (by decide) λi hi=>by
   have:=of_decide_eq_false (n1 i hi)
   omega
 ·exact jf x.tok (λs=>s.length<=1000000000) (by decide) λi hi=>by have:=(hrow i hi).1;omega
 ·exact jf x.tok (λs=> ∀j,qpm (s.getD j default)) (λj=>by simpa using hd0) λi hi=>jf _ qpm hd0 λj hj=>by
   have:=(hrow i hi).2 j hj
   unfold UF at this;simp only[Bool.or_eq_false_iff,decide_eq_false_iff_not]at this;exact⟨om,om,om,om⟩
 ·exact jf x.col (λs=>s.length<=1000000000) (by decide) λi hi=>by
   have:=of_decide_eq_false (h1 i hi)
   omega
theorem qyb{l:List Un}(h:qBj l=false):qbx l∧l.length<=12:=by
 unfold qBj at h;rw[Bool.or_eq_false_iff,qt,decide_eq_false_iff_not]at h;obtain⟨h1,h2⟩:=h;have hu: ∀i,i<l.length->(l.getD i default).rds.length<=6∧ ∀j,j<(l.getD i default).rds.length->((l.getD i default).rds.getD j default).src.length<=8∧((l.getD i default).rds.getD j default).words.length<=8:=λi hi=>by
  have:=h1 i hi
  unfold guB at this;rw[Bool.or_eq_false_iff,decide_eq_false_iff_not,qt]at this;refine⟨om,λj hj=> ?_⟩;have h3:=this.2 j hj;unfold guR at h3;rw[Bool.or_eq_false_iff,decide_eq_false_iff_not]at h3
  have:=(qyq h3.2).1
  exact⟨om,om⟩
 refine⟨⟨om,?_,?_,?_⟩,om⟩
 ·exact jf l (λu=>u.rds.length<=1000000000) (by decide) λi hi=>by have:=(hu i hi).1;omega
 ·exact jf l (λu=> ∀j,(u.rds.getD j default).src.length<=1000000000) (λj=>by simp[show (default:Un).rds= []from rfl,show (default:Rd).src= []from rfl]) λi hi=>jf _ (λr:Rd=>r.src.length<=1000000000) (by decide) λj hj=>by have:=(hu i hi).2 j hj;omega
 ·exact jf l (λu=> ∀j,(u.rds.getD j default).words.length<=1000000000) (λj=>by simp[show (default:Un).rds= []from rfl,show (default:Rd).words= []from rfl]) λi hi=>jf _ (λr:Rd=>r.words.length<=1000000000) (by decide) λj hj=>by have:=(hu i hi).2 j hj;omega
end RC
end
section
namespace AF
open Go
theorem Wk.moveCell{t:wi}{h:wh}{i j a w v:Nat}{ty ty':TypeId}{ds cs:wi}{sz off len:Nat}
  (hi:qr i h=some (.mem w ty' ds)) (ha:ds[a]? =some (.osl j v sz off len)) (hj:qr j h=some (.mem v ty cs)) (hne:i≠j):
  Wk t h t (qq i (qq j h (.emp (v+1))) (.mem w ty' (ds.set a (.osl h.length 1 sz off len)))++ [.mem 1 ty cs]):=by
 intro N W σ A H;obtain⟨p1,p2⟩:=H.hr.pushN 1;have hjl:=qV hj;have hil:=qV hi;have hj':qr j (h++ [.emp 0])=some (.mem v ty cs):=by rw[zw hjl];exact hj
 have hg:qr h.length (h++ [AObj.emp 0])=some (.emp 0):=by unfold qr;rw[List.getElem?_append_right (nlr _),Nat.sub_self];rfl
 have hk':qJ (h++ [.emp 0]) h.length=true:=by unfold qJ;rw[hg]
 obtain⟨σ2,q1,q2,q3⟩:=HR.move (h:=h++ [.emp 0]) p1 hj' hk' om;have e0:qq h.length (qq j (h++ [.emp 0]) (.emp (v+1))) (.mem (qn (qr h.length (h++ [.emp 0]))+1) ty cs)=qq j h (.emp (v+1))++ [.mem 1 ty cs]:=by
  rw[hg];unfold qq;rw[List.set_append_left _ _ hjl,List.set_append_right _ _ (by rw[List.length_set];exact nlr _),List.length_set,Nat.sub_self];rfl
 rw[e0]at q1;rw[hg]at q3;have ee:=p2.trans q2;have hiq:qr i (qq j h (.emp (v+1))++ [.mem 1 ty cs])=some (.mem w ty' ds):=by
  rw[zw (by rw[qK];exact hil),qH (by exact hne)];exact hi
 obtain⟨o,b,arr,o1,o2,o3,o4,o5,o6,o7,o8,o9⟩:=jC q1 (qG hiq);obtain⟨o',b',arr',r1,r2,r3,r4,r5,r6,r7,r8,r9⟩:=jC H.hr (qG hi);obtain⟨o2',s1,s2,s3⟩:=ee.obj i o' r1;rw[o1]at s1;cases s1;have eo:o=o':=s3 (o2.trans r2.symm);subst eo;rw[o4]at r4;cases r4;have earr:arr=arr':=by
  obtain⟨T,fz,_,x1⟩:=o5;obtain⟨T',fz',_,x2⟩:=r5;rw[x1]at x2;cases x2;rfl
 subst earr;have q:=q1.recell (cs':=ds.set a (.osl h.length 1 sz off len)) hiq o1 o4 o5 o6 (by simpa using o7) (λn x hn hx=>o8 n x (by simpa using hn) hx) (λn d x hd hx=>by
  rw[List.getElem?_set]at hd;split at hd
  ·rename_i e;subst e;split at hd
   ·cases hd;exact q3 sz off len x ((r9 a _ x ha hx).ext p2)
   ·cases hd
  ·exact o9 n d x hd hx)
 have e1:qq i (qq j h (.emp (v+1))++ [.mem 1 ty cs]) (.mem w ty' (ds.set a (.osl h.length 1 sz off len)))=qq i (qq j h (.emp (v+1))) (.mem w ty' (ds.set a (.osl h.length 1 sz off len)))++ [.mem 1 ty cs]:=by
  unfold qq;rw[List.set_append_left _ _ (by rw[List.length_set];exact hil)]
 rw[e1]at q;exact⟨σ2,⟨q,H.sz,λn d x hd hx=>(H.tm n d x hd hx).ext ee,SV ee H.df⟩,ee⟩
end AF
end
section
open Go Go.Proofs AF HY LN
namespace RC
def Sr(base:Nat)(L:List Rd):wi:=(List.range L.length).flatMap λj=> [strs (L.getD j default).words,.osl (base+j) (L.getD j default).src.length 1 0 (L.getD j default).src.length]
def qe9(L:List Rd):wh:=L.map λr=> .mem r.src.length 3 (qP r.src)
theorem qoi(L:List Rd):(qe9 L).length=L.length:=by simp[qe9]
theorem qkt{L:List Rd}{j:Nat}(hj:j<L.length):(qe9 L)[j]? =some (.mem (L.getD j default).src.length 3 (qP (L.getD j default).src)):=by
 unfold qe9;rw[List.getElem?_map,zn hj,gdqA,zn hj];rfl
theorem qoh(L M:List Rd):qe9 (L++M)=qe9 L++qe9 M:=by simp[qe9]
theorem qoj{L:List Rd}{j:Nat}(r:Rd):(qe9 L).set j (.mem r.src.length 3 (qP r.src))=qe9 (L.set j r):=by
 unfold qe9;rw[List.map_set]
theorem qbj{α:Type}(f g:Nat->List α): ∀n,(∀i,i<n->f i=g i)->(List.range n).flatMap f=(List.range n).flatMap g:=λn h=>by
 rw[List.flatMap_def,List.flatMap_def];congr 1;exact List.map_congr_left λi hi=>h i (List.mem_range.1 hi)
theorem qks(base:Nat)(L:List Rd)(r:Rd):Sr base (L++ [r])=Sr base L++ [strs r.words,.osl (base+L.length) r.src.length 1 0 r.src.length]:=by
 unfold Sr;rw[lap,List.length_singleton,List.range_succ,List.flatMap_append];congr 1
 ·refine qbj _ _ _ λi hi=> ?_
  rw[gdqA,List.getElem?_append_left hi,<-gdqA]
 ·simp
theorem qae(base:Nat)(L:List Rd):(Sr base L).length=2*L.length:=by
 unfold Sr;generalize L.length=n;generalize hf:(λj=> [strs (L.getD j default).words,AV.osl (base+j) (L.getD j default).src.length 1 0 (L.getD j default).src.length])=f;have h2: ∀j,(f j).length=2:=λj=>by rw[<-hf];rfl
 induction n with
 |zero=>rfl
 |succ n ih=>rw[List.range_succ,List.flatMap_append,lap,ih];simp[h2];omega
theorem qbk(base:Nat)(L:List Rd){k:Nat}(hk:k<L.length): ∃A B,A.length=2*k∧Sr base L=A++ [strs (L.getD k default).words,.osl (base+k) (L.getD k default).src.length 1 0 (L.getD k default).src.length]++B∧
  ∀s,Sr base (L.set k ⟨(L.getD k default).words,s⟩)=A++ [strs (L.getD k default).words,.osl (base+k) s.length 1 0 s.length]++B:=by
 have e:List.range L.length=List.range k++k::(List.range (L.length-(k+1))).map (λi=>k+1+i):=by
  conv=>lhs;rw[show L.length=k+1+(L.length-(k+1)) by omega,List.range_add,List.range_succ,List.append_assoc]
  rfl
 refine⟨(List.range k).flatMap λj=> [strs (L.getD j default).words,.osl (base+j) (L.getD j default).src.length 1 0 (L.getD j default).src.length],((List.range (L.length-(k+1))).map (λi=>k+1+i)).flatMap λj=> [strs (L.getD j default).words,.osl (base+j) (L.getD j default).src.length 1 0 (L.getD j default).src.length],?_,?_,λs=> ?_⟩
 ·have h2: ∀(f:Nat->wi),(∀j,(f j).length=2)-> ∀n,((List.range n).flatMap f).length=2*n:=λf hf n=>by
   induction n with
   |zero=>rfl
   |succ n ih=>rw[List.range_succ,List.flatMap_append,lap,ih];simp[hf];omega
  exact h2 _ (λ_=>rfl) _
 ·unfold Sr;rw[e,List.flatMap_append,List.flatMap_cons,List.append_assoc]
 ·unfold Sr;rw[List.length_set,e,List.flatMap_append,List.flatMap_cons,List.append_assoc];have g: ∀j,(L.set k ⟨(L.getD k default).words,s⟩).getD j default=if j=k then ⟨(L.getD k default).words,s⟩ else L.getD j default:=λj=>ko hk
  congr 1
  ·refine qbj _ _ _ λi hi=> ?_
   rw[g,ine om]
  ·rw[g,ipo rfl];show _::_::_=_::_::_;congr 2;rw[List.flatMap_def,List.flatMap_def,List.map_map,List.map_map];refine congrArg List.flatten (List.map_congr_left λi _=> ?_);simp only[Function.comp];rw[g,ine om]
theorem qog{base:Nat}{L:List Rd}{i:Nat}(hi:i<L.length):((Sr base L).drop (i*2)).take 2= [strs (L.getD i default).words,.osl (base+i) (L.getD i default).src.length 1 0 (L.getD i default).src.length]:=by
 obtain⟨A,B,h1,h2,_⟩:=qbk base L hi;rw[h2,show i*2=A.length by omega,List.append_assoc,List.drop_append,Nat.sub_self];simp
theorem qnB{L:List Int}{n:Nat}{g:AV->AV}(hg: ∀x,g (.int .i64 x)= .int .i64 x)(hn:n=L.length):ILe (qec (some (.mem n 3 (qP L))) n 1 0 n g) (qy L):=by
 subst hn;rw[slOf_mem,ipo ⟨rfl,by rw[jk];omega⟩];refine ILe.sl_eq λi hi=> ?_
 simp only[Nat.zero_add,Nat.mul_one];have e:((qP L).drop i).take 1= [.int .i64 (L.getD i 0)]:=by
  rw[List.drop_eq_getElem_cons (by rw[jk];exact hi),List.take_succ_cons,List.take_zero];have h:=qjt (C:=L) hi;rw[zn (by rw[jk];exact hi)]at h;rw[Option.some.inj h]
 rw[e,List.map_cons,List.map_nil,hg]
theorem qkv{base v:Nat}{L:List Rd}{n:Nat}{fz:Nat->Bool}{H:wh}{d:Nat}(hn:n=L.length)(hf: ∀j,j<L.length->fz (base+j)=true)(hj: ∀j,j<L.length->qr (base+j) H=some (.mem (L.getD j default).src.length 3 (qP (L.getD j default).src))):
  VLe (qec (some (qZ v 97 (Sr base L))) v 2 0 n (rei fz H (d+2))) (kf L):=by
 subst hn
 by_cases h0:L= []
 ·subst h0;show VLe (qec (some (.emp v)) v 2 0 0 _) _;rw[slOf_emp,ipo rfl];exact qW
 ·have e0:qZ v 97 (Sr base L)= .mem v 97 (Sr base L):=so (λe=>h0 (by
   have:=qae base L
   rw[e]at this
   exact List.eq_nil_of_length_eq_zero (by simp at this;omega)))
  rw[e0,slOf_mem,ipo ⟨rfl,by rw[qae];omega⟩];refine VLe.sl (λi hi=> ?_);simp only[Nat.zero_add];rw[qog hi];refine⟨ILe.refl _,?_,trivial⟩;show ILe (rei fz H (d+1+1) (.osl (base+i) _ 1 0 _)) _;rw[rei_osl,ipo (hf i hi),hj i hi];exact qnB (λ_=>rfl) rfl
theorem qrh{A B:wi}{a b c:AV}{n:Nat}(hn:n=A.length+1):List.take n (A++ [a,b]++B)++ [c]++List.drop (n+1) (A++ [a,b]++B)=A++ [a,c]++B:=by
 have e1:A++ [a,b]++B=(A++ [a])++(b::B):=by simp
 have e2:A++ [a,b]++B=(A++ [a]++ [b])++B:=by simp
 have h1:List.take n (A++ [a,b]++B)=A++ [a]:=by rw[e1];exact List.take_left' (by rw[lap,List.length_singleton,hn])
 have h2:List.drop (n+1) (A++ [a,b]++B)=B:=by rw[e2];exact List.drop_left' (by rw[lap,lap,List.length_singleton,List.length_singleton,hn])
 rw[h1,h2];simp
theorem qdF{hi:Int}: ∀ {S:List Int} {lo:Int},S.Pairwise (· < ·)->(∀x∈S,lo<=x∧x<hi)->S.length<=(hi-lo).toNat:=by
 intro S
 induction S with
 |nil=>intro lo _ _;exact nzl _
 |cons a S ih=>
  intro lo h1 h2;obtain⟨p1,p2⟩:=List.pairwise_cons.1 h1;have ha:=h2 a List.mem_cons_self
  have:=ih (lo:=a+1) p2 λx hx=>⟨by have:=p1 x hx;omega,(h2 x (List.mem_cons_of_mem _ hx)).2⟩
  rw[lco];omega
theorem qBt{h M:wh}{a0 a1 a2 a3 a4 a5 a6 a7 a8:AObj}:(h++a0::a1::a2::a3::a4::a5::a6::a7::a8::M).length=h.length+9+M.length:=by
 simp only[lap,lco];omega
theorem qcW{h M:wh}{a0 a1 a2 a3 a4 a5 a6 a7 a8:AObj}{j:Nat}:qr (h.length+9+j) (h++a0::a1::a2::a3::a4::a5::a6::a7::a8::M)=M[j]? :=by
 unfold qr;rw[List.getElem?_append_right om,show h.length+9+j-h.length=j+9 by omega];rfl
theorem qzg{h M:wh}{a0 a1 a2 a3 a4 a5 a6 a7 a8 o:AObj}{j:Nat}:qq (h.length+9+j) (h++a0::a1::a2::a3::a4::a5::a6::a7::a8::M) o=h++a0::a1::a2::a3::a4::a5::a6::a7::a8::M.set j o:=by
 unfold qq;rw[List.set_append_right _ _ om,show h.length+9+j-h.length=j+9 by omega];rfl
theorem qCy(x:Co)(f t:Nat)(h:wh)(ho:CoOk x)(ht:t<=x.col.length)(hn:x.col.length<=1000000000):ACalls Tryz.prog 90 [.agg (coC x),.int .i64 (f:Int),.int .i64 (t:Int)] h (kf (qb2 x f t)) h:=by
 have zl: ∀g,valL g .len [strs x.sig]= .int .i64 x.sig.length:=λ_=>rfl
 have zo: ∀g,okL g .len [strs x.sig]=True:=λ_=>eqt trivial
 refine acO qBg ?_;simp (disch:=omega) only[qCm,coC,zl,zo,go_sem];refine qu (T:=λi:Nat×Nat×AObj×AObj×AObj×AObj=>zf 48 [(1,.int .i64 (f:Int)),(2,.int .i64 (t:Int)),(3,.op h.length 1 0),(7,.osl (h.length+2) i.2.1 2 0 (UP x f (t-f) i.1).length),(13,.int .i64 x.sig.length),(14,.int .i64 i.1)])
  (H:=λi=>h++ .mem 1 26 (coC x):: .emp 1::qZ i.2.1 97 (Sr (h.length+9) (UP x f (t-f) i.1))::i.2.2.1::i.2.2.2.1::i.2.2.2.2.1:: .emp 0::i.2.2.2.2.2:: .emp 0::qe9 (UP x f (t-f) i.1))
  (inv:=λi=>i.1<=x.sig.length∧qJ [i.2.2.1] 0=true∧qJ [i.2.2.2.1] 0=true∧qJ [i.2.2.2.2.1] 0=true∧qJ [i.2.2.2.2.2] 0=true) (m:=λi=>x.sig.length-i.1) (0,1,.emp 0,.emp 0,.emp 0,.emp 0) ⟨nzl _,rfl,rfl,rfl,rfl⟩ (Wk.temps ?_) ?_
 ·(simp only[UP,lnl,go_sem,qg,qc,qb,qf];try exact we)
 rintro⟨s,v,O3,O4,O5,O7⟩ ⟨i1,j3,j4,j5,j7⟩ K hK;simp only at i1 j3 j4 j5 j7 hK;have j3': ∀m,qJ (O3::m) 0=true:=λ_=>j3
 have j4': ∀m,qJ (O4::m) 0=true:=λ_=>j4
 have j5': ∀m,qJ (O5::m) 0=true:=λ_=>j5
 have j7': ∀m,qJ (O7::m) 0=true:=λ_=>j7
 have hst:UP x f (t-f) (s+1)=qdy (UP x f (t-f) s) (rdG x s f (t-f)) s:=rfl;have hln:=qfc x f (t-f) s;have hsg:=ho.sg;obtain⟨L,hL⟩:=wg (UP x f (t-f) s)
 rw[<-hL]at hst hln;have eL:=hL.symm
 by_cases hs:s<x.sig.length
 ·have k1:((s:Int)<x.sig.length)=True:=wj;have c21:=λh=>rdP x f t s h ho ht hs hn
  obtain⟨w,hw⟩:=wg (rdG x s f (t-f))
  rw[<-hw]at hst;simp only[<-hw]at c21;unfold coC at c21;simp (disch:=omega) only[coC,k1,eL,go_sem]
  repeat' first|(refine cA (c21 _) flk ?_;simp (disch:=omega) only[j3',j4',go_sem])
  have hwl:w.length<=1000000000:=by have:=qb1 x s f (t-f);rw[<-hw]at this;omega
  have hRd:=qfb x f (t-f) s;rw[eL]at hRd;have hwL: ∀j,(L.getD j default).words.length<=1000000000:=jf L (λr=>r.words.length<=1000000000) (by decide) λj hj=>by
   have h1:=hRd.nn j hj;obtain⟨y,ys,e⟩:=List.exists_cons_of_ne_nil h1;have h2:=hRd.wd j hj y (by rw[e];exact List.mem_cons_self);rw[h2]
   have:=qb1 x y.toNat f (t-f)
   omega
  have hob:= @qkt L;refine cA (r:= .int .i64 (qg9 L w)) ?c (by exact flk) ?_
  case c=>
   refine ACalls.borrow ((fdP L ⟨w,[(s:Int)]⟩ [] om hwl hwL).le ?v (qi)) rfl;simp only[List.map_cons,List.map_nil,go_sem];refine⟨qkv rfl (λ_ _=>rfl) (λj hj=>by rw[qcW];exact hob hj),VLe.agg ⟨qi,VLe.sl_eq rfl (λi hi=> ?_),trivial⟩,qi,trivial⟩;obtain rfl:i=0:=by simpa using hi
   rfl
  have eKl:=qae (h.length+9) L;rcases Us L w with⟨k,b1,b2,b3⟩|⟨b1,b2⟩
  ·have q1:(qg9 L w<0)=False:=wm;have hst2:UP x f (t-f) (s+1)=L.set k ⟨w,(L.getD k default).src++ [(s:Int)]⟩:=by
    rw[hst];unfold qdy;rw[b3,ine om,itn]
   obtain⟨A,B,a1,a2,a3⟩:=qbk (h.length+9) L b1;have a3:=a3 ((L.getD k default).src++ [(s:Int)]);have hne:(Sr (h.length+9) L≠ [])=True:=eqt λe=>by rw[e]at eKl;simp at eKl;omega
   have hob:=hob b1;rw[b2]at a2 a3;have hos:= @qoj L k ⟨w,(L.getD k default).src++ [(s:Int)]⟩;rw[<-hst2]at hos a3;dsimp only at hos;obtain⟨S,hS⟩:=wg ((L.getD k default).src)
   rw[<-hS]at a2 a3 hob hos;rw[lap,List.length_singleton]at a3 hos;rw[qc0,show qP [(s:Int)]= [AV.int .i64 (s:Int)]from rfl]at hos;have gg:(Sr (h.length+9) L)[k*2+1]? =some (.osl (h.length+9+k) S.length 1 0 S.length):=by
    rw[a2,List.append_assoc,List.getElem?_append_right om,show k*2+1-A.length=1 by omega];rfl
   have gs:List.take (k*2+1) (Sr (h.length+9) L)++ [.osl (h.length+9+k) (S.length+1) 1 0 (S.length+1)]++List.drop (k*2+1+1) (Sr (h.length+9) L)=Sr (h.length+9) (UP x f (t-f) (s+1)):=by
    rw[a2,a3];exact qrh om
   have eI:=jk S;have hSl:S.length<=1000:=by
    have:=(qb3 x f (t-f) s).src (L.getD k default) (by rw[eL,gdqA,zn b1];exact List.getElem_mem b1)
    have:=qdF (hi:=(s:Int)) (lo:=0) this.1 this.2
    rw[<-hS]at this;omega
   have eown:qZ v 97 (Sr (h.length+9) L)= .mem v 97 (Sr (h.length+9) L):=so (of_eq_true hne);have el2:(UP x f (t-f) (s+1)).length=L.length:=by rw[hst2,List.length_set]
   have eown2:qZ v 97 (Sr (h.length+9) (UP x f (t-f) (s+1)))= .mem v 97 (Sr (h.length+9) (UP x f (t-f) (s+1))):=so λe=>by
    have:=qae (h.length+9) (UP x f (t-f) (s+1))
    rw[e,el2]at this;simp at this;omega
   have eTi:List.take S.length (qP S)=qP S:=ltl om;have kL:((k:Int)<L.length)=True:=wj;have k0:(0<=(k:Int))=True:=wj;rw[eown];simp (disch:=omega) only[b3,j7',gg,eKl,kL,k0,Option.getD_some,Option.isSome_some,qcW,qzg,hob,eTi,Nat.mul_one,itn,go_sem]
   repeat' first|(with_reducible first|intro _|apply aiA)|exact clz|fail
   all_goals try (simp only[ja,zy,qcW,hob,wl,ql,if_true,Option.getD_some,eI,beq_self_eq_true];done)
   all_goals try (simp only[bne_iff_ne];omega)
   all_goals try (simp only[zy,qcW,hob,ql,if_true,Option.getD_some,eI];exact nlr _)
   rw[gs];have eD:(AV.int .i64 (s:Int)::List.drop 1 (zQ [i6 0] 1))= [AV.int .i64 (s:Int)]:=rfl;simp only[eD];rw[hos];refine hK _ _ (s+1,v,.mem (qn (some O3)+1) 3 [.int .i64 (s:Int)],.mem (qn (some O4)+1) 97 [strs w,.osl (h.length+3) (qn (some O3)+1) 1 0 1],O5,.mem (qn (some O7)+1) 3 [.int .i64 (s:Int)]) ⟨hs,rfl,rfl,j5,rfl⟩ (by simp only;omega) ?_;simp only[eown2,el2,coC];refine Wk.temps ?_
   (simp only[go_sem,qg,qc,qb,qf];try exact we)
  ·have q1:(qg9 L w<0)=True:=eqt b2;have hst2:UP x f (t-f) (s+1)=L++ [⟨w,[(s:Int)]⟩]:=by
    rw[hst];unfold qdy;rw[ipo b2]
   have eTk:List.take (L.length*2) (Sr (h.length+9) L)=Sr (h.length+9) L:=ltl om;simp (disch:=omega) only[q1,j5',eTk,eKl,Nat.mul_one,go_sem]
   repeat' first|with_reducible apply aiA|exact clz|fail
   have el2:(UP x f (t-f) (s+1)).length=L.length+1:=by rw[hst2,lap];rfl
   have eo:qe9 (UP x f (t-f) (s+1))=qe9 L++ [.mem 1 3 [.int .i64 (s:Int)]]:=by rw[hst2,qoh];rfl
   have ek:Sr (h.length+9) (UP x f (t-f) (s+1))=Sr (h.length+9) L++ [strs w,.osl (h.length+9+L.length) 1 1 0 1]:=by rw[hst2,qks];rfl
   have eown:qZ (v+1) 97 (Sr (h.length+9) L++ [strs w,.osl (h.length+3) (qn (some O3)+1) 1 0 1])= .mem (v+1) 97 (Sr (h.length+9) L++ [strs w,.osl (h.length+3) (qn (some O3)+1) 1 0 1]):=so (by simp);have eown2:qZ (v+1) 97 (Sr (h.length+9) L++ [strs w,.osl (h.length+9+L.length) 1 1 0 1])= .mem (v+1) 97 (Sr (h.length+9) L++ [strs w,.osl (h.length+9+L.length) 1 1 0 1]):=so (by simp);have eset:(Sr (h.length+9) L++ [strs w,AV.osl (h.length+3) (qn (some O3)+1) 1 0 1]).set (L.length*2+1) (.osl (h.length+9+L.length) 1 1 0 1)=Sr (h.length+9) L++ [strs w,.osl (h.length+9+L.length) 1 1 0 1]:=by
    rw[List.set_append_right _ _ om,eKl,show L.length*2+1-2*L.length=1 by omega];rfl
   rw[eown];refine hK _ _ (s+1,v+1,.emp (qn (some O3)+1+1),.mem (qn (some O4)+1) 97 [strs w,.osl (h.length+3) (qn (some O3)+1) 1 0 1],.mem (qn (some O5)+1) 97 [strs w,.osl (h.length+3) (qn (some O3)+1) 1 0 1],O7) ⟨hs,rfl,rfl,rfl,j7⟩ (by simp only;omega)
    (Wk.trans (Wk.moveCell (i:=h.length+2) (j:=h.length+3) (a:=L.length*2+1) (w:=v+1) (v:=qn (some O3)+1) (ty:=3) (ty':=97) (ds:=Sr (h.length+9) L++ [strs w,.osl (h.length+3) (qn (some O3)+1) 1 0 1]) (cs:= [.int .i64 (s:Int)]) (sz:=1) (off:=0) (len:=1) ?m1 ?m2 ?m3 om) ?m4)
   case m1=>simp only[go_sem]
   case m2=>
    rw[List.getElem?_append_right om,show L.length*2+1-(Sr (h.length+9) L).length=1 by omega];rfl
   case m3=>simp only[go_sem];rfl
   case m4=>
    have eD:(AV.int .i64 (s:Int)::List.drop 1 (zQ [i6 0] 1))= [AV.int .i64 (s:Int)]:=rfl;have eD2: ∀c:AV,(strs w::c::List.drop 2 (zQ [AV.nl,AV.nl] 1))= [strs w,c]:=λ_=>rfl
    simp only[eo,ek,eown2,el2,coC,eD,eD2,qBt,qoi,go_sem,eset,List.append_assoc,lca];refine Wk.temps ?_
    (simp only[go_sem,qg,qc,qb,qf];try exact we)
 ·have k1:((s:Int)<x.sig.length)=False:=wm;obtain rfl:s=x.sig.length:=by omega
  have hF:qb2 x f t=L:=by rw[hL];rfl
  rw[hF];simp (disch:=omega) only[k1,eL,go_sem]
  repeat' first|(apply qa;exact rvk;simp only[go_sem])
  exact qkv rfl (λj _=>dqt om) (λj hj=>by rw[qcW];exact qkt hj)
theorem qCV(l:List Un)(f t:Nat)(k v k2 v2:Nat)(h:wh)(hk:qr k h=some (.mem v 3 [.int .i64 (f:Int)]))(hk2:qr k2 h=some (.mem v2 3 [.int .i64 (t:Int)]))(hn:l.length<=1000000000):
  ACalls Tryz.prog 33 [zA l,.fn (.func 178) [] [.op k v 0,.op k2 v2 0]] h (.bool (rnB l (f,t))) h:=by
 have hc:=qG hk;have hc2:=qG hk2;unfold zA rnB;refine qum qA5 ⟨rfl,rfl⟩ ⟨rfl,rfl⟩ (qbP qx3 l.length (λj=>unC (l.getD j default)) (λj=> .agg (unC (l.getD j default))) _ [] [.op k v 0,.op k2 v2 0] _ h (λi _=>⟨rfl,by simp[jU,unC],rfl,rfl,rfl⟩) (λi _=> ?_) om);refine ACalls.borrow ?_ rfl;have e:([AV.agg (unC (l.getD i default))]++ [AV.op k v 0,AV.op k2 v2 0]).map (rei (λ_=>true) h 8)= [.agg (unC (l.getD i default)),.ip [.int .i64 (f:Int)],.ip [.int .i64 (t:Int)]]:=by
  simp only[lca,lna,List.map_cons,List.map_nil,rei_op,if_true,hc,hc2,ipOf_some,List.drop_zero,rei_agg];rfl
 rw[lna,e];exact qDA _ _ _ _
theorem qml(l:List Un)(i:Nat):beH l (i+1)=(l.getD i default).to:=by unfold beH;rw[ine om,Nat.add_sub_cancel]
theorem qsd(u:Un)(n v:Nat)(ty:TypeId):lowO n (.mem v ty (unC u)):=by
 intro c hc;simp only[unC,List.mem_cons,List.not_mem_nil,or_false]at hc;rcases hc with rfl|rfl|rfl<;>rfl
theorem qsc(x:Co)(n v:Nat)(ty:TypeId):lowO n (.mem v ty (coC x)):=by
 intro c hc;simp only[coC,List.mem_cons,List.not_mem_nil,or_false]at hc;rcases hc with rfl|rfl|rfl|rfl<;>rfl
theorem qkE(x:Co): ∀a∈rnX x,a.length=2:=by
 intro a ha;unfold rnX at ha;obtain⟨_,_,rfl⟩:=List.mem_map.1 ha;rfl
theorem qd6(x:Co):(rnX x).length=(qbs (cmB x) x.col.length).length:=by simp[rnX]
theorem qkD{x:Co}{i:Nat}(hi:i<(rnX x).length):(rnX x)[i]= [.int .i64 (((qbs (cmB x) x.col.length).getD i (0,0)).1:Int),.int .i64 (((qbs (cmB x) x.col.length).getD i (0,0)).2:Int)]:=by
 have h2:i<(qbs (cmB x) x.col.length).length:=by rw[<-qd6];exact hi
 simp only[rnX,List.getElem_map];rw[gdqA,zn h2];rfl
theorem qku(x:Co)(f d:Nat)(hd:d<=1000000000)(s:Nat)(hs:s<=1000000000):qpl (UP x f d s):=by
 have hI:=qb3 x f d s;have hH:=qfb x f d s;have hl:=qfc x f d s;refine⟨om,?_,?_⟩
 ·exact jf _ (λr:Rd=>r.src.length<=1000000000) (by decide) λj hj=>by
   have:=hI.src ((UP x f d s).getD j default) (by rw[gdqA,zn hj];exact List.getElem_mem hj)
   have:=qdF (hi:=(s:Int)) (lo:=0) this.1 this.2
   omega
 ·exact jf _ (λr:Rd=>r.words.length<=1000000000) (by decide) λj hj=>by
   have h1:=hH.nn j hj;obtain⟨y,ys,e⟩:=List.exists_cons_of_ne_nil h1;have h2:=hH.wd j hj y (by rw[e];exact List.mem_cons_self);rw[h2]
   have:=qb1 x y.toNat f d
   omega
theorem qDB(x:Co)(l:List Un)(h:wh)(ho:CoOk x)(hn:x.col.length<=1000000000)(hu:qbx l):ACalls Tryz.prog 127 [.agg (coC x),zA l] h (.bool (rgB x l)) h:=by
 have hsg:=ho.sg;have hl:=hu.n;obtain⟨R,hR⟩:=wg (rgB x l)
 rw[<-hR];unfold rgB at hR;refine acO qwG ?_;simp (disch:=omega) only[quV,coC,zA,go_sem]
 repeat' first|with_reducible apply aiA|exact clz|fail
 refine qu (T:=λi:Nat×AObj=>zf 63 [(2,.op h.length 1 0),(3,.op (h.length+1) 1 0),(4,.op (h.length+2) 1 0),(5,.int .i64 (beH l i.1)),(10,zA l),(11,.int .i64 l.length),(12,.int .i64 i.1)])
  (H:=λi=>h++ [.mem 1 26 (coC x),.mem 1 28 [zA l],.mem 1 4 [.bool false],i.2,.emp 0,.emp 0])
  (inv:=λi=>i.1<=l.length∧qJ [i.2] 0=true∧(∀n,lowO n i.2)∧ ∀j,j<i.1->unB x (beH l j) (l.getD j default)=true) (m:=λi=>l.length-i.1) (0,.emp 0) ⟨nzl _,rfl,λ_=>trivial,λj hj=>absurd hj (nnz j)⟩ (Wk.temps ?_) ?_
 ·(simp only[zA,beH,go_sem,qg,qc,qb,qf];try exact we)
 rintro⟨i,O⟩ ⟨i1,i2,il,i3⟩ K hK;simp only at i1 i2 il i3 hK;have i2': ∀m,qJ (O::m) 0=true:=λ_=>i2
 by_cases hi:i<l.length
 ·have k1:((i:Int)<l.length)=True:=wj;have hno:unB x (beH l i) (l.getD i default)=false->R=false:=λhx=>by
   rw[hR];unfold UG;rw[qR.2 ⟨i,hi,by rw[hx];rfl⟩];rfl
  have hS:unB x (beH l i) (l.getD i default)=true-> ∀j,j<i+1->unB x (beH l j) (l.getD j default)=true:=λhx j hj=>by
   by_cases e:j=i
   ·subst e;exact hx
   ·exact i3 j om
  have hbs:=qml l i;have zrd:qpl (l.getD i default).rds:=⟨hu.rd i,hu.sr i,hu.wd i⟩
  obtain⟨u,hux⟩:=wg (l.getD i default)
  have eu:=hux.symm;rw[eu]at hno hS hbs zrd;obtain⟨b,hb⟩:=wg (beH l i)
  have eb:=hb.symm;rw[eb]at hno hS;have hB:unB x b u= !(decide (u.frm<=b)||(decide (u.frm<0)||(decide (u.to<=u.frm)||(decide ((x.col.length:Int)<u.to)|| !decide (u.rds=qb2 x u.frm.toNat u.to.toNat))))):=rfl
  by_cases g1:u.frm<=b
  ·have q1:(u.frm<=b)=True:=eqt g1;rw[hno (by rw[hB,dqt g1];rfl)];simp (disch:=omega) only[zA,unC,coC,qp,kf,k1,eu,eb,i2',q1,go_sem]
   repeat' first|(refine qj ( kf []) ?_;simp (disch:=omega) only[kf,go_sem])|exact wa|with_reducible apply aiA|exact clz|fail
  have q1:(u.frm<=b)=False:=eqf g1
  by_cases g2:u.frm<0
  ·have q2:(u.frm<0)=True:=eqt g2;rw[hno (by rw[hB,dqt g2];simp)];simp (disch:=omega) only[zA,unC,coC,qp,kf,k1,eu,eb,i2',q1,q2,go_sem]
   repeat' first|(refine qj ( kf []) ?_;simp (disch:=omega) only[kf,go_sem])|exact wa|with_reducible apply aiA|exact clz|fail
  have q2:(u.frm<0)=False:=eqf g2
  by_cases g3:u.to<=u.frm
  ·have q3:(u.to<=u.frm)=True:=eqt g3;rw[hno (by rw[hB,dqt g3];simp)];simp (disch:=omega) only[zA,unC,coC,qp,kf,k1,eu,eb,i2',q1,q2,q3,go_sem]
   repeat' first|(refine qj ( kf []) ?_;simp (disch:=omega) only[kf,go_sem])|exact wa|with_reducible apply aiA|exact clz|fail
  have q3:(u.to<=u.frm)=False:=eqf g3
  by_cases g4:(x.col.length:Int)<u.to
  ·have q4:((x.col.length:Int)<u.to)=True:=eqt g4;rw[hno (by rw[hB,dqt g4];simp)];simp (disch:=omega) only[zA,unC,coC,qp,kf,k1,eu,eb,i2',q1,q2,q3,q4,go_sem]
   repeat' first|(refine qj ( kf []) ?_;simp (disch:=omega) only[kf,go_sem])|exact wa|with_reducible apply aiA|exact clz|fail
  have q4:((x.col.length:Int)<u.to)=False:=eqf g4;obtain⟨f,hf⟩: ∃f:Nat,u.frm=(f:Int):=⟨u.frm.toNat,om⟩
  obtain⟨t,ht⟩: ∃t:Nat,u.to=(t:Int):=⟨u.to.toNat,om⟩
  have c48:=λh=>qCy x f t h ho om hn
  have zF:qpl (qb2 x f t):=qku x f (t-f) om x.sig.length om;have c49:=λh=>qDH u.rds (qb2 x f t) h zrd zF
  have eft:qb2 x u.frm.toNat u.to.toNat=qb2 x f t:=by rw[hf,ht,itn,itn]
  rw[dqf g1,dqf g2,dqf g3,dqf g4,eft]at hB;obtain⟨F,hF⟩:=wg (qb2 x f t)
  rw[<-hF]at hB;simp only[<-hF]at c48 c49;obtain⟨c,hc⟩:=wg (decide (u.rds=F))
  rw[<-hc]at hB;simp only[<-hc]at c49;rw[hf]at q1 q2 q3;rw[ht]at q3 q4;unfold coC qp at c48;unfold kf at c48 c49;cases c with
  |false=>
   rw[hno hB];simp (disch:=omega) only[zA,unC,coC,qp,kf,k1,eu,eb,i2',q1,q2,q3,q4,hf,ht,go_sem]
   repeat' first|((first|refine cG (λe=>c48 _) ?_ ?_|refine cG (λe=>c49 _) ?_ ?_);exact flk;simp (disch:=omega) only[go_sem])|exact wa|with_reducible apply aiA|exact clz|fail
  |true=>
   simp (disch:=omega) only[zA,unC,coC,qp,kf,k1,eu,eb,i2',q1,q2,q3,q4,hf,ht,go_sem]
   repeat' first|((first|refine cG (λe=>c48 _) ?_ ?_|refine cG (λe=>c49 _) ?_ ?_);exact flk;simp (disch:=omega) only[go_sem])|with_reducible apply aiA|exact clz|fail
   refine hK _ _ (i+1,.mem (qn (some O)+1) 64 (unC u)) ⟨hi,rfl,λn=>qsd u n _ _,hS hB⟩ (by simp only;omega) ?_;simp only[hbs,ht,unC,hf];refine Wk.temps ?_
   (simp only[zA,go_sem,qg,qc,qb,qf];try exact we)
 have k1:((i:Int)<l.length)=False:=wm;obtain rfl:i=l.length:=by omega
 have hun:UG x l=true:=by
  unfold UG;rw[qt.2 λj hj=>by rw[i3 j hj];rfl];rfl
 rw[hun,Bool.true_and]at hR;have hcv:=qrl hun;clear hK;have c56:=λh=>qCz x h
 unfold coC qp at c56;simp (disch:=omega) only[coC,qp,k1,go_sem]
 repeat' first|(refine cA (c56 _) flk ?_;simp (disch:=omega) only[go_sem])
 obtain⟨rs,hrs⟩:=wg (qbs (cmB x) x.col.length)
 have hrl:=qd6 x;have hrg:=λi hi=>qkD (x:=x) (i:=i) hi
 rw[<-hrs]at hrl hcv;simp only[<-hrs]at hrg;refine zh (xs:=rnX x) (itR x ho hn) (qkE x)
  (S:=λi hh=>(∃O8 O9,qJ [O8] 0=true∧qJ [O9] 0=true∧(∀n,lowO n O8)∧(∀n,lowO n O9)∧hh=h++ [.mem 1 26 (coC x),.mem 1 28 [zA l],.mem 1 4 [.bool false],O,O8,O9])∧ ∀j,j<i->rnB l (rs.getD j (0,0))=true)
  (E:=λs hh=>s= .ret∧R=false∧ ∃O8 O9,(∀n,lowO n O8)∧(∀n,lowO n O9)∧hh=h++ [.mem 1 26 (coC x),.mem 1 28 [zA l],.mem 1 4 [.bool false],O,O8,O9]) ?_ ?_ ?_ ?_ ?_ ?_ ?_
 ·rintro i hh ⟨⟨O8,O9,_,_,l8,l9,rfl⟩,_⟩;refine LowI.app rfl (λo ho=> ?_);simp only[List.mem_cons,List.not_mem_nil,or_false]at ho;rcases ho with rfl|rfl|rfl|rfl|rfl|rfl
  ·left;simp[coC,qp]
  ·left;simp
  ·left;simp
  ·left;simp
  ·right;exact⟨l8 _,l8 _⟩
  ·right;exact⟨l9 _,l9 _⟩
 ·rintro s hh ⟨_,_,O8,O9,l8,l9,rfl⟩;refine LowI.app rfl (λo ho=> ?_);simp only[List.mem_cons,List.not_mem_nil,or_false]at ho;rcases ho with rfl|rfl|rfl|rfl|rfl|rfl
  ·left;simp[coC,qp]
  ·left;simp
  ·left;simp
  ·left;simp
  ·right;exact⟨l8 _,l8 _⟩
  ·right;exact⟨l9 _,l9 _⟩
 ·exact⟨⟨.emp 0,.emp 0,rfl,rfl,λ_=>trivial,λ_=>trivial,rfl⟩,λj hj=>absurd hj (nnz j)⟩
 ·have lu: ∀n,qS n (zA l)=true:=λ_=>rfl
  have lt: ∀n,qS n (qm x.tok)=true:=λ_=>rfl
  simp[qS,qS.lowVs,lu,lt,qe2]
  try omega
 ·rintro i hh tl LI TS hi ⟨⟨O8,O9,s8,s9,l8,l9,rfl⟩,hj⟩ hlen K K2 hK hN hR' hX;rw[hrg i hi];rw[hrl]at hi;obtain⟨⟨f,t⟩,hr⟩: ∃r,r=rs.getD i (0,0):=⟨_,rfl⟩
  have er:=hr.symm;rw[er];have s8': ∀m,qJ (O8::m) 0=true:=λ_=>s8
  have s9': ∀m,qJ (O9::m) 0=true:=λ_=>s9
  simp only[kg];simp (disch:=omega) only[List.append_assoc,coC,s8',s9',go_sem];refine hK _ _ (h++ [.mem 1 26 (coC x),.mem 1 28 [zA l],.mem 1 4 [.bool false],O,.mem (qn (some O8)+1) 3 [.int .i64 (f:Int)],.mem (qn (some O9)+1) 3 [.int .i64 (t:Int)]]) (by simp[coC]) (by simp) ?_;simp (disch:=omega) only[List.append_assoc,go_sem]
  repeat' first|with_reducible apply aiA|exact clz|fail
  refine cA (qCV l f t (h.length+4) _ (h.length+5) _ _ ?ka ?kb hl) (by exact flk) ?_
  case ka=>simp only[go_sem]
  case kb=>simp only[go_sem]
  have l8': ∀n,lowO n (.mem (qn (some O8)+1) 3 [.int .i64 (f:Int)]):=λn c hc=>by simp at hc;subst hc;rfl
  have l9': ∀n,lowO n (.mem (qn (some O9)+1) 3 [.int .i64 (t:Int)]):=λn c hc=>by simp at hc;subst hc;rfl
  cases hb:rnB l (f,t)with
  |true=>
   simp (disch:=omega) only[go_sem];refine hN _ _ (h++ [.mem 1 26 (coC x),.mem 1 28 [zA l],.mem 1 4 [.bool false],O,.mem (qn (some O8)+1) 3 [.int .i64 (f:Int)],.mem (qn (some O9)+1) 3 [.int .i64 (t:Int)]]) (by simp[coC]) (by simp) ⟨⟨_,_,rfl,rfl,l8',l9',rfl⟩,λj hj'=> ?_⟩
   by_cases e:j=i
   ·subst e;rw[er];exact hb
   ·exact hj j om
  |false=>
   have hRf:R=false:=by
    rw[hR];cases hc:cvA x l with
    |false=>rfl
    |true=>
     have h2:=List.all_eq_true.1 (hcv.2 hc) (f,t) (by rw[hr,gdqA,zn hi];exact List.getElem_mem hi);rw[hb]at h2;cases h2
   simp (disch:=omega) only[go_sem];refine hR' _ _ (h++ [.mem 1 26 (coC x),.mem 1 28 [zA l],.mem 1 4 [.bool false],O,.mem (qn (some O8)+1) 3 [.int .i64 (f:Int)],.mem (qn (some O9)+1) 3 [.int .i64 (t:Int)]]) (by simp[coC]) (by simp) ⟨rfl,hRf,_,_,l8',l9',rfl⟩
 ·rintro hh ⟨⟨O8,O9,s8,s9,l8,l9,rfl⟩,hj⟩;have hRt:R=true:=by
   rw[hR];refine hcv.1 (List.all_eq_true.2 λr hr=> ?_);obtain⟨j,hj1,rfl⟩:=List.getElem_of_mem hr
   have:=hj j (by rw[hrl];exact hj1)
   rw[gdqA,zn hj1]at this;exact this
  rw[hRt];simp (disch:=omega) only[go_sem]
  repeat' first|exact wa|fail
 ·rintro e hh ⟨rfl,hRf,O8,O9,l8,l9,rfl⟩;rw[hRf];simp (disch:=omega) only[go_sem]
  repeat' first|exact wa|fail
theorem vaP(x:Co)(l:List Un)(h:wh)(hz:qaN x)(hu:qbx l)(hp:kY SG h):ACalls Tryz.prog 69 [.agg (coC x),zA l] h (.int .i64 (vaE x l)) h:=by
 have c1:=λl'=>coP x (h++l') hz (hp.app l')
 unfold vaE
 by_cases g:coE x=0
 case neg=>
  have k1:(coE x=0)=False:=eqf g;rw[ipo g];obtain⟨e,he⟩:=wg (coE x)
  rw[<-he]at c1 k1;unfold coC at c1;refine acO qxY ?_;simp (disch:=omega) only[qAr,coC,go_sem]
  repeat' first|(refine cA (c1 _) flk ?_;simp (disch:=omega) only[k1,go_sem])|exact wa|fail
 rw[ine (λhc=>hc g)];have c2:=λh=>qDB x l h (SU g) hz.cl hu
 rw[g]at c1;unfold coC at c1 c2;cases g2:rgB x l<;>rw[g2]at c2
 all_goals
  refine acO qxY ?_;simp (disch:=omega) only[qAr,coC,go_sem]
  repeat' first|((first|refine cA (c1 _) ?_ ?_|refine cA (c2 _) ?_ ?_);exact flk;simp (disch:=omega) only[go_sem])|exact wa|fail
theorem zJ{α:Type}{L:List α}{a:α}{i:Nat}(h:i<L.length):L.getD i a∈L:=by
 rw[gdqA,zn h];exact List.getElem_mem h
theorem qbO{α:Type}{L:List α}{a b:α}{i:Nat}(h:i<L.length):(L.set i b).getD i a=b:=by
 rw[gdqA,List.getElem?_set,ipo rfl,ipo h];rfl
def bgn(c:UInt8):Bool:=decide (kind c=1)||decide (kind c=3)
theorem U4{c:UInt8}(h:bgn c=true):SI c=true:=by
 unfold bgn at h;unfold SI;rw[Bool.or_eq_true]at h ⊢;rcases h with h|h
 ·exact .inl h
 ·exact .inr (by rw[h];rfl)
def tkF(f:Int)(w:Str):Tk:=⟨w,[],[],0,f,[]⟩
structure Bs where
 done:List Tk
 opn:Bool
 fl:Int
 word:Str
 jn:Bool
def Bs.fin(b:Bs):List Tk:=b.done++if b.opn=true then [tkF b.fl b.word] else []
def Bs.out(b:Bs):List Tk:=b.done++if b.opn=true then [tkF b.fl []] else []
def jfl(j:Bool)(n:Nat):Int:=if j=true∧0<n then 16 else 0
def Bs.stp(b:Bs)(c:UInt8):Bs:=
 if b.opn=true∧SI c=true then ⟨b.done,true,b.fl,b.word++ [c],b.jn⟩
 else if bgn c=true then ⟨b.fin,true,jfl b.jn b.fin.length,[c],true⟩
 else if kind c=6 then ⟨b.fin,false,0,[],false⟩
 else ⟨b.fin++ [tkF (8+jfl b.jn b.fin.length) [c]],false,0,[],true⟩
def bs0:Bs:=⟨[],false,0,[],false⟩
def bsL(s:Str):Bs:=s.foldl Bs.stp bs0
theorem qeK(s:Str)(c:UInt8):bsL (s++ [c])=(bsL s).stp c:=by unfold bsL;rw[List.foldl_append];rfl
def tkN(t:Tk):Tk:=⟨t.text,t.text,t.page,t.line,t.flags,t.name⟩
def Tn(s:Str):List Tk:=(bsL s).fin
def qaZ(s:Str):List Tk:=(Tn s).map tkN
def qsb(L:List Tk):Bool:=jp (λj=>decide (64<(L.getD j default).text.length)) L.length
def qfo(s:Str):Int:=if qsb (Tn s)=true then 4 else 0
def TkG(t:Tk):Prop:=t=tkF t.flags t.text∧(((t.flags=0∨t.flags=16)∧ ∃c r,t.text=c::r∧bgn c=true∧ ∀b∈r,SI b=true)∨((t.flags=8∨t.flags=24)∧ ∃c,t.text= [c]∧bgn c=false∧kind c≠6))
structure qma (s:Str) (b:Bs):Prop where
 cl:b.opn=false->b.word= []∧b.fl=0
 op:b.opn=true->TkG (tkF b.fl b.word)∧b.jn=true∧(b.fl=0∨b.fl=16)
 dn: ∀t∈b.done,TkG t
 len:b.fin.length<=s.length
 cat:(b.fin.map Tk.text).flatten=s.filter λc=> !decide (kind c=6)
theorem Bs.fin_ok{s:Str}{b:Bs}(h:qma s b): ∀t∈b.fin,TkG t:=by
 intro t ht;unfold Bs.fin at ht;rcases List.mem_append.1 ht with ht|ht
 ·exact h.dn t ht
 ·split at ht
  ·rename_i ho;rw[List.mem_singleton]at ht;subst ht;exact (h.op ho).1
  ·cases ht
theorem qjq{c:UInt8}(h:SI c=true):kind c≠6:=by
 unfold SI at h;simp only[Bool.or_eq_true,decide_eq_true_eq]at h;omega
theorem qc3(j:Bool)(n:Nat):jfl j n=0∨jfl j n=16:=by
 unfold jfl;split
 ·exact .inr rfl
 ·exact .inl rfl
theorem TD(s:Str)(c:UInt8):(s++ [c]).filter (λc=> !decide (kind c=6))=s.filter (λc=> !decide (kind c=6))++if kind c=6 then [] else [c]:=by
 rw[List.filter_append];congr 1
 by_cases h:kind c=6
 ·simp[h]
 ·simp[h]
theorem qzo{s:Str}{b:Bs}(h:qma s b)(c:UInt8):qma (s++ [c]) (b.stp c):=by
 have hf:=Bs.fin_ok h;have hl:=h.len;have hc:=h.cat;unfold Bs.stp;split
 ·rename_i g;obtain⟨g1,g2⟩:=g;obtain⟨⟨_,k1⟩,k2,k3⟩:=h.op g1;have kw: ∃e r,b.word=e::r∧bgn e=true∧ ∀x∈r,SI x=true:=by
   rcases k1 with⟨_,k⟩|⟨k,_⟩
   ·exact k
   ·exact absurd k (by have:(tkF b.fl b.word).flags=b.fl:=rfl;rw[this];omega)
  refine⟨λe=>(by cases e),λ_=>⟨⟨rfl,.inl ⟨k3,?_⟩⟩,k2,k3⟩,h.dn,?_,?_⟩
  ·obtain⟨e,r,e1,e2,e3⟩:=kw;refine⟨e,r++ [c],?_,e2,λx hx=> ?_⟩
   ·show b.word++ [c]=_;rw[e1];rfl
   ·rcases List.mem_append.1 hx with hx|hx
    ·exact e3 x hx
    ·rw[List.mem_singleton]at hx;subst hx;exact g2
  ·unfold Bs.fin at hl ⊢;simp only[g1,if_true,lap,lco,lnl]at hl ⊢;omega
  ·unfold Bs.fin at hc ⊢;rw[TD,ine (qjq g2),<-hc];simp[g1,tkF]
 rename_i g;split
 ·rename_i g2;have j:=qc3 b.jn b.fin.length;refine⟨λe=>(by cases e),λ_=>⟨⟨rfl,.inl ⟨j,c,[],rfl,g2,λx hx=>by cases hx⟩⟩,rfl,j⟩,hf,?_,?_⟩
  ·show (b.fin++ [_]).length<=_;simp only[lap,lco,lnl];omega
  ·show ((b.fin++ [tkF _ [c]]).map Tk.text).flatten=_;rw[TD,ine (qjq (U4 g2)),List.map_append,List.flatten_append,hc];rfl
 rename_i g2;have g2:bgn c=false:=by simpa using g2
 split
 ·rename_i g3;refine⟨λ_=>⟨rfl,rfl⟩,λe=>(by cases e),hf,?_,?_⟩
  ·show (b.fin++ []).length<=_;simp only[lap,lnl,lco];omega
  ·show ((b.fin++ []).map Tk.text).flatten=_;rw[lan,TD,ipo g3,hc,lan]
 ·rename_i g3;have j:=qc3 b.jn b.fin.length;refine⟨λ_=>⟨rfl,rfl⟩,λe=>(by cases e),λt ht=> ?_,?_,?_⟩
  ·rcases List.mem_append.1 ht with ht|ht
   ·exact hf t ht
   ·rw[List.mem_singleton]at ht;subst ht;refine⟨rfl,.inr ⟨?_,c,rfl,g2,g3⟩⟩;show 8+jfl b.jn b.fin.length=8∨8+jfl b.jn b.fin.length=24;omega
  ·show (b.fin++ [_]++ []).length<=_;simp only[lap,lnl,lco];omega
  ·show ((b.fin++ [tkF _ [c]]++ []).map Tk.text).flatten=_;rw[lan,TD,ine g3,List.map_append,List.flatten_append,hc];rfl
theorem qa6(s:Str):qma s (bsL s):=by
 have key: ∀n,n<=s.length->qma (s.take n) (bsL (s.take n)):=by
  intro n
  induction n with
  |zero=>intro _;exact⟨λ_=>⟨rfl,rfl⟩,λe=>(by cases e),λt ht=>(by cases ht),nlr _,rfl⟩
  |succ n ih=>
   intro hn;rw[List.take_add_one,zn hn];show qma (s.take n++ [s[n]]) (bsL (s.take n++ [s[n]]));rw[qeK];exact qzo (ih om) _
 have:=key s.length (nlr _)
 rwa [List.take_length]at this
theorem qfq(s:Str): ∀t∈Tn s,TkG t:=Bs.fin_ok (qa6 s)
theorem qds(s:Str):(Tn s).length<=s.length:=(qa6 s).len
theorem qck(s:Str):(qaZ s).length<=s.length:=by unfold qaZ;rw[List.length_map];exact qds s
theorem qo4(s:Str):((qaZ s).map Tk.text).flatten=s.filter λc=> !decide (kind c=6):=by
 unfold qaZ;rw[List.map_map];exact (qa6 s).cat
theorem TkG.ne{t:Tk}(h:TkG t):t.text≠ []:=by
 rcases h.2 with⟨_,c,r,e,_⟩|⟨_,c,e,_⟩<;>rw[e]<;>exact List.cons_ne_nil _ _
theorem qaB{L:List Str}{w:Str}(h:w∈L):w.length<=L.flatten.length:=by
 induction L with
 |nil=>cases h
 |cons a r ih=>
  rw[List.flatten_cons,lap];rcases List.mem_cons.1 h with rfl|h
  ·omega
  ·have:=ih h;omega
theorem qet(s:Str){t:Tk}(ht:t∈qaZ s): ∃u,TkG u∧t=tkN u∧u∈Tn s:=by
 unfold qaZ at ht;obtain⟨u,hu,rfl⟩:=List.mem_map.1 ht;exact⟨u,qfq s u hu,rfl,hu⟩
theorem Um{L:List Tk}:qsb L=false↔ ∀t∈L,t.text.length<=64:=by
 unfold qsb;rw[qt];constructor
 ·intro h t ht;obtain⟨j,hj,rfl⟩:=List.getElem_of_mem ht
  have:=of_decide_eq_false (h j hj)
  rw[gdqA,zn hj,Option.getD_some]at this;omega
 ·intro h j hj
  have:=h (L.getD j default) (by rw[gdqA,zn hj];exact List.getElem_mem hj)
  exact dqf om
theorem qtp{s:Str}:qfo s=0↔ ∀t∈Tn s,t.text.length<=64:=by
 unfold qfo;rw[<-Um];cases qsb (Tn s)
 ·simp
 ·simp
def qha(s:Str):Int:=if zM s≠0 then zM s else qfo s
def qqk(s:Str):List Str:=if qha s=0 then (qaZ s).map Tk.text else []
structure Dc where
 kind:Int
 sig:Str
 tok:Int
 txt:Str
instance:Inhabited Dc:=⟨⟨0,[],0,[]⟩⟩
def dcC(d:Dc):wi:= [.int .i64 d.kind,.str d.sig,.int .i64 d.tok,.str d.txt]
def kz(l:List Dc):AV:= .sl l.length λi=>dcC (l.getD i default)
theorem qiZ(l:List Dc):(kz l).flag=true:=rfl
theorem qgK(l:List Dc):(kz l).strip=kz l:=rfl
theorem qon{fz:Nat->Bool}{h:wh}{n:Nat}(l:List Dc):rei fz h (n+1) (kz l)=kz l:=rfl
theorem qnl{fz:Nat->Bool}{h:wh}{n:Nat}(l:List Dc):frz fz h (n+1) (kz l)=kz l:=rfl
attribute [go_sem] qiZ qgK qon qnl
def zR(x:Co)(g:Str):Int:=Uh (λj=>decide (g=x.sig.getD j [])) x.sig.length 0
def gm(x:Co)(s:Nat)(t:Int):Int:=Uh (λk=>decide ((x.col.getD k []).getD s 0=t)) x.col.length 0
def FU(x:Co)(l:List Un)(o:Dc):Int:=fnU l (gm x (zR x o.sig).toNat o.tok)
def tkB(x:Co)(o:Dc):Bool:=decide (0<=zR x o.sig)&&(decide (0<=o.tok)&&decide (o.tok<((x.tok.getD (zR x o.sig).toNat []).length:Int)))
def cjE(o:Dc):Int:=if o.kind=2 then (if qha o.txt≠0 then qha o.txt else if qqk o.txt= [] then 5 else 0) else 0
def qaW(x:Co)(l:List Un)(o:Dc):Int:=
 if o.kind<1∨3<o.kind then 8 else if o.txt≠ []∧o.kind≠2 then 1 else if tkB x o=false then 6 else if FU x l o<0 then 20 else cjE o
def Ur(x:Co)(l:List Un)(d:List Dc):Int:=if 256<d.length then 4 else SE (λi=>qaW x l (d.getD i default)) 0 d.length
theorem qbv{x:Co}{o:Dc}(h:tkB x o=true):0<=zR x o.sig∧(zR x o.sig).toNat<x.sig.length∧x.sig.getD (zR x o.sig).toNat []=o.sig∧0<=o.tok∧o.tok<((x.tok.getD (zR x o.sig).toNat []).length:Int):=by
 unfold tkB at h;rw[Bool.and_eq_true,Bool.and_eq_true,decide_eq_true_iff,decide_eq_true_iff,decide_eq_true_iff]at h;obtain⟨h1,h2,h3⟩:=h;rcases zE (λj=>decide (o.sig=x.sig.getD j [])) x.sig.length with⟨i,g1,g2,_,g4⟩|⟨_,g2⟩
 ·have e:zR x o.sig=i:=g4;rw[e]at h1 h3 ⊢;exact⟨h1,g1,(of_decide_eq_true g2).symm,h2,h3⟩
 ·have e:zR x o.sig= -1:=g2;omega
theorem Sm{x:Co}{l:List Un}{o:Dc}(h:qaW x l o=0):1<=o.kind∧o.kind<=3∧(o.txt= []∨o.kind=2)∧tkB x o=true∧0<=FU x l o∧cjE o=0:=by
 unfold qaW at h;split at h
 ·cases h
 split at h
 ·cases h
 split at h
 ·cases h
 split at h
 ·cases h
 rename_i h1 h2 h3 h4;refine⟨om,om,?_,by simpa using h3,om,h⟩
 by_cases e:o.txt= []
 ·exact .inl e
 ·exact .inr (Classical.not_not.1 λhc=>h2 ⟨e,hc⟩)
theorem qeM{o:Dc}(h:cjE o=0)(hk:o.kind=2):zM o.txt=0∧qfo o.txt=0∧qaZ o.txt≠ []∧o.txt≠ []:=by
 unfold cjE at h;rw[ipo hk]at h;split at h
 ·rename_i e;exact absurd h e
 rename_i h1;have h1:=Classical.not_not.1 h1;split at h
 ·cases h
 rename_i h2;unfold qqk at h2;rw[ipo h1]at h2;have h3:qaZ o.txt≠ []:=λe=>h2 (by rw[e];rfl)
 unfold qha at h1;split at h1
 ·rename_i e;exact absurd h1 e
 rename_i g;exact⟨Classical.not_not.1 g,h1,h3,λe=>h3 (by rw[e];rfl)⟩
structure Pc where
 t:Tk
 c:Int
instance:Inhabited Pc:=⟨⟨default,0⟩⟩
def pcB(x:Co)(s k:Nat):Bool:=decide (0<=(x.col.getD k []).getD s 0)
def pcT(x:Co)(s k:Nat):Pc:=⟨(x.tok.getD s []).getD ((x.col.getD k []).getD s 0).toNat default,(k:Int)⟩
def spk(x:Co)(s f:Nat):Nat->List Pc
 |0=> []
 |d+1=>spk x s f d++if pcB x s (f+d)=true then [pcT x s (f+d)] else []
structure Rw where
 p:Pc
 u:Int
 d:Int
instance:Inhabited Rw:=⟨⟨default,0,0⟩⟩
def qBV(f:Int):Bool:=f.toNat.testBit 2
def jnB(f:Int):Bool:=f.toNat.testBit 4
def qBs(b s:Str):Bool:=if jR b=true then !jR s&& !decide (s= [39]) else true
def mkW(pv:Option Str)(r:Rw):Wd:=⟨r.p.t.text,r.p.c,r.u,r.d,jnB r.p.t.flags&&(match pv with|none=>false|some b=>qBs b r.p.t.text),qBV r.p.t.flags,r.p.t.name⟩
def ql7(L:List Rw)(i:Nat):Option Str:=if i=0 then none else some (L.getD (i-1) default).p.t.text
def bsW(L:List Rw):List Wd:=(List.range L.length).map λi=>mkW (ql7 L i) (L.getD i default)
theorem km(L:List Rw):(bsW L).length=L.length:=by unfold bsW;simp
theorem Tv{L:List Rw}{i:Nat}(hi:i<L.length):(bsW L).getD i default=mkW (ql7 L i) (L.getD i default):=by
 unfold bsW;rw[gdqA,List.getElem?_map,List.getElem?_range hi];rfl
theorem qaw{α:Type}{L M:List α}{a:α}{i:Nat}(hi:i<L.length):(L++M).getD i a=L.getD i a:=by
 rw[gdqA,gdqA,List.getElem?_append_left hi]
theorem Ud{α:Type}{L M:List α}{a:α}{i:Nat}:(L++M).getD (L.length+i) a=M.getD i a:=by
 rw[gdqA,gdqA,List.getElem?_append_right om,Nat.add_sub_cancel_left]
theorem qmq(L:List Rw)(r:Rw):bsW (L++ [r])=bsW L++ [mkW (ql7 (L++ [r]) L.length) r]:=by
 unfold bsW;rw[lap,lco,lnl,Nat.zero_add,List.range_succ,List.map_append];congr 1
 ·refine List.map_congr_left λi hi=> ?_
  rw[List.mem_range]at hi;have e1:(L++ [r]).getD i default=L.getD i default:=qaw hi;have e2:ql7 (L++ [r]) i=ql7 L i:=by
   unfold ql7;split
   ·rfl
   ·rw[qaw om]
  rw[e1,e2]
 ·have e1:(L++ [r]).getD L.length default=r:=by
   have:=Ud (L:=L) (M:= [r]) (a:=default) (i:=0)
   rw[Nat.add_zero]at this;rw[this];rfl
  rw[List.map_cons,List.map_nil,e1]
theorem qkl(L:List Rw)(r:Rw):ql7 (L++ [r]) L.length=if L.length=0 then none else some ((bsW L).getD (L.length-1) default).text:=by
 unfold ql7;split
 ·rfl
 ·rw[qaw om,Tv om];rfl
def Uo(x:Co)(l:List Un)(d:List Dc)(k:Nat):Nat->Int
 |0=> -1
 |n+1=>if FU x l (d.getD n default)=k then (n:Int) else Uo x l d k n
def frN(l:List Un)(k:Nat):Nat:=(l.getD k default).frm.toNat
def toN(l:List Un)(k:Nat):Nat:=(l.getD k default).to.toNat
def jb(l:List Un)(k:Nat):Nat:=if k=0 then 0 else toN l (k-1)
def qg8(x:Co)(l:List Un)(k:Nat)(o:Dc):List Pc:=
 if o.kind=1 then spk x (zR x o.sig).toNat (frN l k) (toN l k-frN l k) else if o.kind=2 then (qaZ o.txt).map (λt=>⟨t,(l.getD k default).frm⟩) else []
def rwM(ps:List Pc)(u d:Int):List Rw:=ps.map λp=>⟨p,u,d⟩
def rwC(x:Co)(s f t:Nat):List Rw:=rwM (spk x s f (t-f)) (-1) (-1)
def rwU(x:Co)(l:List Un)(d:List Dc)(s k:Nat):List Rw:=
 if Uo x l d k d.length<0 then rwM (spk x s (frN l k) (toN l k-frN l k)) k (-1)
 else rwM (qg8 x l k (d.getD (Uo x l d k d.length).toNat default)) k (Uo x l d k d.length)
def rwL(x:Co)(l:List Un)(d:List Dc)(s:Nat):Nat->List Rw
 |0=> []
 |k+1=>rwL x l d s k++(rwC x s (jb l k) (frN l k)++rwU x l d s k)
def rwA(x:Co)(l:List Un)(d:List Dc)(s:Nat):List Rw:=rwL x l d s l.length++rwC x s (jb l l.length) x.col.length
def esE(x:Co)(l:List Un)(d:List Dc)(s:Int):Int:=
 if vaE x l≠0 then vaE x l else if s<0∨(x.sig.length:Int)<=s then 2 else if Ur x l d≠0 then Ur x l d else if 1024<(rwA x l d s.toNat).length then 4 else 0
def esR(x:Co)(l:List Un)(d:List Dc)(s:Int):List Wd:=if esE x l d s=0 then bsW (rwA x l d s.toNat) else []
theorem TK(x:Co)(l:List Un)(d:List Dc)(k:Nat): ∀n,-1<=Uo x l d k n∧Uo x l d k n<n:=by
 intro n
 induction n with
 |zero=>exact⟨Int.le_refl _,by unfold Uo;omega⟩
 |succ n ih=>
  unfold Uo;split
  ·omega
  ·omega
theorem qjC{x:Co}{l:List Un}{d:List Dc}{k:Nat}: ∀ {n j:Nat},Uo x l d k n=j->FU x l (d.getD j default)=k:=by
 intro n
 induction n with
 |zero=>intro j h;unfold Uo at h;omega
 |succ n ih=>
  intro j h;unfold Uo at h;split at h
  ·rename_i g;have e:n=j:=by omega
   rw[<-e];exact g
  ·exact ih h
theorem qcc(x:Co)(s f:Nat): ∀d,(spk x s f d).length<=d:=by
 intro d
 induction d with
 |zero=>exact nlr _
 |succ d ih=>
  unfold spk;rw[lap];split
  ·simp only[lco,lnl];omega
  ·simp only[lnl];omega
theorem qbS{x:Co}{s f:Nat}{p:Pc}: ∀ {d:Nat},p∈spk x s f d↔ ∃k,f<=k∧k<f+d∧pcB x s k=true∧p=pcT x s k:=by
 intro d
 induction d with
 |zero=>
  constructor
  ·intro h;cases h
  ·rintro⟨k,h1,h2,_⟩;omega
 |succ d ih=>
  unfold spk;rw[List.mem_append,ih];constructor
  ·rintro (⟨k,h1,h2,h3⟩|h)
   ·exact⟨k,h1,om,h3⟩
   ·split at h
    ·rename_i g;rw[List.mem_singleton]at h;exact⟨f+d,om,om,g,h⟩
    ·cases h
  ·rintro⟨k,h1,h2,h3,h4⟩
   by_cases e:k<f+d
   ·exact .inl ⟨k,h1,e,h3,h4⟩
   ·have e:k=f+d:=by omega
    subst e;rw[ipo h3];exact .inr (List.mem_singleton.2 h4)
theorem jG(ps:List Pc)(u d:Int):(rwM ps u d).length=ps.length:=by unfold rwM;rw[List.length_map]
theorem zV{ps:List Pc}{u d:Int}{r:Rw}:r∈rwM ps u d↔r.p∈ps∧r.u=u∧r.d=d:=by
 unfold rwM;rw[List.mem_map];constructor
 ·rintro⟨p,hp,rfl⟩;exact⟨hp,rfl,rfl⟩
 ·rintro⟨h1,h2,h3⟩;exact⟨r.p,h1,by cases r;cases h2;cases h3;rfl⟩
end RC
end
