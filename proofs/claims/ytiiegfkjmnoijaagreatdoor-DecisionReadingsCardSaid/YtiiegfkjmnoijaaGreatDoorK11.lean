import Derived.Test.YtiiegfkjmnoijaaGreatDoorK10
import Derived.Test.YtiiegfkjmnoijaaGreatDoorK3
import Derived.Test.YtiiegfkjmnoijaaGreatDoorK5
import Derived.Test.YtiiegfkjmnoijaaGreatDoorK8
import Derived.Test.YtiiegfkjmnoijaaGreatDoorProg
import Derived.Test.YtiiegfkjmnoijaaGreatDoorK9
import Derived.Test.YtiiegfkjmnoijaaGreatDoorK7
set_option linter.all false
set_option maxHeartbeats 64000000
set_option maxRecDepth 100000
section
open Go Go.Proofs AF HY LN
namespace RC
structure qhc (L:List Rd) (s:Nat) (W:Nat->List Str):Prop where
 has: ∀i,i<s-> ∃j,j<L.length∧(i:Int)∈(L.getD j default).src
 wd: ∀j,j<L.length-> ∀x∈(L.getD j default).src,(L.getD j default).words=W x.toNat
 nn: ∀j,j<L.length->(L.getD j default).src≠ []
theorem TO{L:List Rd}{r:Rd}{j:Nat}:(L++ [r]).getD j default=if j<L.length then L.getD j default else if j=L.length then r else default:=by
 rw[gdqA];split
 ·rename_i h;rw[List.getElem?_append_left h,gdqA]
 ·rename_i h;rw[List.getElem?_append_right om];split
  ·rename_i e;subst e;rw[Nat.sub_self];rfl
  ·rw[List.getElem?_eq_none (by rw[List.length_singleton];omega)];rfl
theorem ql3{L:List Rd}{s:Nat}{W:Nat->List Str}(h:qhc L s W):qhc (qdx L (W s) s) (s+1) W:=by
 rcases Uu L (W s)with⟨k,h1,h2,h3⟩|⟨h1,h2⟩
 ·have e:qdx L (W s) s=L.set k ⟨W s,(L.getD k default).src++ [(s:Int)]⟩:=by
   unfold qdx;rw[h3,ine om,itn]
  rw[e];refine⟨λi hi=> ?_,λj hj x hx=> ?_,λj hj=> ?_⟩
  ·by_cases ei:i=s
   ·subst ei;exact⟨k,by rw[List.length_set];exact h1,by rw[kk h1,ipo rfl];exact List.mem_append_right _ (List.mem_singleton.2 rfl)⟩
   ·obtain⟨j,hj,hx⟩:=h.has i om;refine⟨j,by rw[List.length_set];exact hj,?_⟩;rw[kk h1];split
    ·rename_i e';subst e';exact List.mem_append_left _ hx
    ·exact hx
  ·rw[List.length_set]at hj;rw[kk h1]at hx ⊢;split at hx
   ·rename_i e';rw[ipo e'];rcases List.mem_append.1 hx with hx|hx
    ·rw[<-h2];exact h.wd k h1 x hx
    ·rw[List.mem_singleton]at hx;subst hx;rfl
   ·rename_i e';rw[ine e'];exact h.wd j hj x hx
  ·rw[List.length_set]at hj;rw[kk h1];split
   ·exact λe=>absurd (List.append_eq_nil_iff.1 e).2 (by simp)
   ·exact h.nn j hj
 ·have e:qdx L (W s) s=L++ [⟨W s,[(s:Int)]⟩]:=by
   unfold qdx;rw[ipo h2]
  rw[e];refine⟨λi hi=> ?_,λj hj x hx=> ?_,λj hj=> ?_⟩
  ·by_cases ei:i=s
   ·subst ei;exact⟨L.length,by rw[lap,List.length_singleton];omega,by rw[TO,ine om,ipo rfl];exact List.mem_singleton.2 rfl⟩
   ·obtain⟨j,hj,hx⟩:=h.has i om;exact⟨j,by rw[lap,List.length_singleton];omega,by rw[TO,ipo hj];exact hx⟩
  ·rw[lap,List.length_singleton]at hj;rw[TO]at hx ⊢;split at hx
   ·rename_i hl;rw[ipo hl];exact h.wd j hl x hx
   ·rename_i hl;rw[ine hl,ipo om];rw[ipo om]at hx;rw[List.mem_singleton]at hx;subst hx;rfl
  ·rw[lap,List.length_singleton]at hj;rw[TO];split
   ·rename_i hl;exact h.nn j hl
   ·rw[ipo om];simp
theorem qbY(x:Co)(f d:Nat): ∀s,qhc (UR x f d s) s λi=>rdG x i f d:=by
 intro s
 induction s with
 |zero=>exact⟨λi h=>absurd h (nnz i),λj h=>absurd h (nnz j),λj h=>absurd h (nnz j)⟩
 |succ s ih=>exact ql3 ih
theorem qod(x:Co)(f t:Nat):qhc (qbj x f t) x.sig.length λi=>rdG x i f (t-f):=qbY x f (t-f) x.sig.length
def qoa(L:List Rd)(s:Int):Int:=U0 (λj=>decide (s∈(L.getD j default).src)) L.length 0
theorem qsv{L:List Rd}{n:Nat}{W:Nat->List Str}(h:qhc L n W)(hi:qhd L n){s:Nat}(hs:s<n): ∃j,qoa L s=(j:Nat)∧j<L.length∧(s:Int)∈(L.getD j default).src∧(L.getD j default).words=W s∧ ∀k,k<L.length->((s:Int)∈(L.getD k default).src↔k=j):=by
 obtain⟨j,hj,hx⟩:=h.has s hs;have uniq: ∀k,k<L.length->((s:Int)∈(L.getD k default).src↔k=j):=λk hk=>by
  refine⟨λhm=> ?_,λe=>by subst e;exact hx⟩;have e1:=h.wd k hk _ hm;have e2:=h.wd j hj _ hx;rcases Nat.lt_trichotomy k j with hl|hl|hl
  ·exact absurd (e1.trans e2.symm) (hi.ne k j hl hj)
  ·exact hl
  ·exact absurd (e2.trans e1.symm) (hi.ne j k hl hk)
 refine⟨j,?_,hj,hx,?_,uniq⟩
 ·unfold qoa;exact SV hj (λk hk=>dqf λhm=>by have:=(uniq k om).1 hm;omega) (dqt hx)
 ·have:=h.wd j hj _ hx
  rwa [itn]at this
end RC
end
section
open Go Go.Proofs AF
def qbK:List Nat:= []
def qBz:C:=
 (vS [MC 2 (.bool false)] ((vS [vM 3 0] (C.block 0 ((vY 5 3 0 0).seq ((C.block 1 ((vS [MV 11 0,MV 12 3,O2 13 (.idxA 3) 11 12,vL 14 2 13,LD 15 14,O1 16 .len 15,vN 17 .gtr 16 6]
 (vT 17 (vV [MC 2 (.bool true)]))).seq (vS [vM 4 0] (C.block 2 ((vS [MV 18 4,MV 19 0,MV 20 3,O2 21 (.idxA 3) 19 20,vL 22 2 21,LD 23 22,O1 24 .len 23,BI 25 .lss 18 24] (vU 25
 2)).seq ((C.block 3 (vS [MV 28 0,MV 29 3,O2 30 (.idxA 3) 28 29,vL 31 2 30,LD 32 31,MV 33 4,O2 34 (.idxA 2) 32 33,vL 35 1 34,LD 36 35,O1 37 .len 36,vN 38 .gtr 37 8,MV 39 38,vQ
 40 39 0,vQ 41 39 3,vP 42 39 (.idxA 3) 40 41,vZ 43 39 2 42,v6 44 39 43,vQ 45 39 4,vP 46 39 (.idxA 2) 44 45,vZ 47 39 0 46,v6 48 39 47,vR 49 39 (.call 149 true) 48 (i6 8),PT 50 39
 49] (vT 50 (vV [MC 2 (.bool true)])))).seq (vX 26 4))).loop)))).seq (vX 9 3))).loop)).seq (vV [MV 51 0,O1 52 .len 51,vN 53 .gtr 52 12,MV 2 53])))
theorem qAo:qJ Tryz.prog 93 54 0 [RV.tmp 2] qBz:=fi Tryz.f93 [] qbK []
def qBo:C:=
 (vS [O1 1 (.box 0 26) 0,MC 2 (.bool false)] ((vS [vM 3 0] (C.block 0 ((vS [MV 4 3,vL 5 3 1,LD 6 5,O1 7 .len 6,BI 8 .lss 4 7] (vU 8 0)).seq ((C.block 1 (vS [vL 11 3 1,LD 12 11,MV
 13 3,O2 14 (.idxA 1) 12 13,LD 15 14,O1 16 .len 15,vN 17 .gtr 16 36] (vT 17 (vV [MC 2 (.bool true)])))).seq (vX 9 3))).loop)).seq (vV [vL 18 2 1,LD 19 18,O1 20 (.call 85 true)
 19,MV 21 20,vZ 22 21 3 1,v6 23 21 22,vO 24 21 .len 23,vR 25 21 (.bin .gtr) 24 (i6 24),PT 26 21 25,MV 27 26,vZ 28 27 1 1,v6 29 27 28,vO 30 27 .len 29,vR 31 27 (.bin .gtr) 30 (i6
 36),PT 32 27 31,MV 33 32,vZ 34 33 0 1,v6 35 33 34,vZ 36 33 1 1,v6 37 33 36,vP 38 33 (.call 86 true) 35 37,PT 39 33 38,MV 2 39])))
theorem qAa:qJ Tryz.prog 28 40 1 [RV.tmp 2] qBo:=fi Tryz.f28 [1] qbK []
def qBu:C:=
 (vS [MC 2 (.bool false)] (vS [vM 3 1] ((vS [vM 4 0] (C.block 0 ((vY 7 4 0 0).seq ((C.block 1 ((vS [MV 13 0,MV 14 4,O2 15 (.idxA 1) 13 14,LD 16 15,O1 17 .len 16,vN 18 .gtr 17
 6,MV 19 18,vQ 20 19 4,vR 21 19 (.bin .geq) 20 (i6 4),vQ 22 19 21,MG 23 22 true 0,MG 24 22 true 4,P2 25 22 true (.idxA 1) 23 24,P1 26 22 true (.load none) 25,P1 27 22 true .len
 26,PC 28 22 true (.bin .gtr) 27 (i6 1),QF 29 19 false 22 28,PT 30 19 29] (vT 30 (vV [MC 2 (.bool true)]))).seq ((vS [MV 31 4,vN 32 .lss 31 4] (vT 32 (vW [MV 33 3,MV 34 0,MV 35
 4,O2 36 (.idxA 1) 34 35,LD 37 36,O1 38 .len 37,vN 39 .add 38 1,BI 40 .mul 33 39,MV 3 40]))).seq (vS [vM 5 0] (C.block 2 ((vS [MV 41 5,MV 42 0,MV 43 4,O2 44 (.idxA 1) 42 43,LD
 45 44,O1 46 .len 45,BI 47 .lss 41 46] (vU 47 2)).seq ((C.block 3 (vS [MV 50 0,MV 51 4,O2 52 (.idxA 1) 50 51,LD 53 52,MV 54 5,O2 55 (.idxA 6) 53 54,O1 56 (.load (some 6))
 55,⟨some 6,none,.alloc 0 92 [.str [],.str [],.str [],i6 0,i6 0,.str []],[]⟩,ST 6 6 56] (vS [vL 57 0 6,LD 58 57,O1 59 .slen 58,vN 60 .gtr 59 12,MV 61 60,vZ 62 61 1 6,v6 63 61
 62,vO 64 61 .slen 63,vR 65 61 (.bin .gtr) 64 (i6 12),PT 66 61 65,MV 67 66,vZ 68 67 2 6,vZ 69 67 0 68,v6 70 67 69,vO 71 67 .slen 70,vR 72 67 (.bin .gtr) 71 (i6 20),PT 73 67
 72,MV 74 73,vZ 75 74 5 6,v6 76 74 75,vO 77 74 .slen 76,vR 78 74 (.bin .gtr) 77 (i6 20),PT 79 74 78] (vT 79 (vV [MC 2 (.bool true)]))))).seq (vX 48 5))).loop))))).seq (vX 11
 4))).loop)).seq (vV [MV 80 3,vN 81 .gtr 80 400,MV 82 81,vQ 83 82 0,vO 84 82 .len 83,vR 85 82 (.bin .gtr) 84 (i6 6),vQ 86 82 85,MG 87 86 true 0,P1 88 86 true .len 87,PC 89 86
 true (.bin .leq) 88 (i6 32),QF 90 82 false 86 89,PT 91 82 90,MV 92 91,vQ 93 92 0,vO 94 92 .len 93,vR 95 92 (.bin .gtr) 94 (i6 34),PT 96 92 95,MV 2 96]))))
theorem qAj:qJ Tryz.prog 85 97 1 [RV.tmp 2] qBu:=fi Tryz.f85 [6] qbK []
def qBv:C:=
 (vS [MC 4 (.bool false)] ((vS [vM 5 0] (C.block 0 ((vY 6 5 1 0).seq ((C.block 1 (vS [MV 12 1,MV 13 5,O2 14 (.idxA 1) 12 13,LD 15 14,O1 16 .slen 15,vN 17 .gtr 16 20] (vT 17 (vV
 [MC 4 (.bool true)])))).seq (vX 10 5))).loop)).seq (vV [MV 18 0,O1 19 .slen 18,vN 20 .gtr 19 20,MV 4 20])))
theorem qAk:qJ Tryz.prog 86 21 0 [RV.tmp 4] qBv:=fi Tryz.f86 [] qbK []
end
section
open Go Go.Proofs AF HY LN
namespace RC
theorem qz5(u:Un)(c:Int)(h:we):ACalls Tryz.prog 128 [.agg (unC u),.ip [.int .i64 c]] h (.bool (decide (u.frm<=c)&&decide (c<u.to))) h:=by
 by_cases g:u.frm<=c
 ·have k1:(u.frm<=c)=True:=eqt g;rw[dqt g,Bool.true_and];refine acO qpw ?_;simp (disch:=omega) only[qqv,unC,k1,go_sem]
  repeat' first|exact v7|with_reducible apply aiA|exact clz|fail
 ·have k1:(u.frm<=c)=False:=eqf g;rw[dqf g,Bool.false_and];refine acO qpw ?_;simp (disch:=omega) only[qqv,unC,k1,go_sem]
  repeat' first|exact v7|with_reducible apply aiA|exact clz|fail
theorem qCr(l:List Un)(c:Int)(k v:Nat)(h:we)(hk:qt k h=some (.mem v 3 [.int .i64 c]))(hl:l.length<=1000000000):
  ACalls Tryz.prog 92 [zM l,.fn (.func 128) [] [.op k v 0]] h (.int .i64 (fnU l c)) h:=by
 have hc:=qM hk;unfold zM fnU;refine qcV qxg l.length (λj=>unC (l.getD j default)) (λj=> .agg (unC (l.getD j default))) _ [] [.op k v 0] _ h (λi _=>⟨rfl,by simp[kc,unC],rfl,rfl,rfl⟩) (λi _=> ?_) om;refine ACalls.borrow ?_ rfl;have e:([AV.agg (unC (l.getD i default))]++ [AV.op k v 0]).map (rei (λ_=>true) h 8)= [.agg (unC (l.getD i default)),.ip [.int .i64 c]]:=by
  simp only[lca,lna,List.map_cons,List.map_nil,rei_op,if_true,hc,ipOf_some,List.drop_zero,rei_agg];rfl
 rw[lna,e];exact qz5 _ c _
def fnR(l:List Un)(c:Int):Int:=if c<0 then 0 else fnU l c
def fnE(c:Int):Int:=if c<0 then 2 else 0
theorem qAr(l:List Un)(c:Int)(h:we)(hl:l.length<=1000000000):ACalls Tryz.prog 71 [zM l,.int .i64 c] h (.tup [.int .i64 (fnR l c),.int .i64 (fnE c)]) h:=by
 unfold fnR fnE
 by_cases g:c<0
 ·have k1:(c<0)=True:=eqt g;rw[ipo g,ipo g];refine acO qxd ?_;simp (disch:=omega) only[qzD,k1,go_sem]
  repeat' first|exact v7|with_reducible apply aiA|exact clz|fail
 ·have k1:(c<0)=False:=eqf g;rw[ine g,ine g];have c1:=qCr l c h.length 1 (h++ [.mem 1 3 [.int .i64 c]]) (by rw[getO_app0];rfl) hl;refine acO qxd ?_;simp (disch:=omega) only[qzD,k1,go_sem]
  repeat' first|(refine cA (c1) flk ?_;simp (disch:=omega) only[go_sem])|exact v7|with_reducible apply aiA|exact clz|fail
theorem qCF(r:Rd)(s:Int)(h:we)(hr:r.src.length<=1000000000):ACalls Tryz.prog 113 [.agg (rdC r),.ip [.int .i64 s]] h (.bool (decide (s∈r.src))) h:=by
 have c1:=λh=>qzR r.src s h hr
 unfold qG at c1;refine acO qvT ?_;simp (disch:=omega) only[qui,rdC,qG,go_sem]
 repeat' first|(refine cA (c1 _) flk ?_;simp (disch:=omega) only[go_sem])|exact v7|with_reducible apply aiA|exact clz|fail
theorem qCs(L:List Rd)(s:Int)(k v:Nat)(h:we)(hk:qt k h=some (.mem v 3 [.int .i64 s]))(hl:L.length<=1000000000)(hr: ∀j,(L.getD j default).src.length<=1000000000):
  ACalls Tryz.prog 102 [jq L,.fn (.func 113) [] [.op k v 0]] h (.int .i64 (qoa L s)) h:=by
 have hc:=qM hk;unfold jq qoa;refine qcV qpv L.length (λj=>rdC (L.getD j default)) (λj=> .agg (rdC (L.getD j default))) _ [] [.op k v 0] _ h (λi _=>⟨rfl,by simp[kc,rdC],rfl,rfl,rfl⟩) (λi _=> ?_) om;refine ACalls.borrow ?_ rfl;have e:([AV.agg (rdC (L.getD i default))]++ [AV.op k v 0]).map (rei (λ_=>true) h 8)= [.agg (rdC (L.getD i default)),.ip [.int .i64 s]]:=by
  simp only[lca,lna,List.map_cons,List.map_nil,rei_op,if_true,hc,ipOf_some,List.drop_zero,rei_agg];rfl
 rw[lna,e];exact qCF _ s _ (hr i)
def qoc(L:List Rd)(s:Int):Int:=if qoa L s<0 then 0 else qoa L s
def qob(L:List Rd)(s:Int):Int:=if qoa L s<0 then 6 else 0
theorem qCG(u:Un)(s:Int)(h:we)(hl:u.rds.length<=1000000000)(hr: ∀j,(u.rds.getD j default).src.length<=1000000000):ACalls Tryz.prog 59 [.agg (unC u),.int .i64 s] h (.tup [.int .i64 (qoc u.rds s),.int .i64 (qob u.rds s)]) h:=by
 have c1:=qCs u.rds s (h.length+1) 1 (h++ [.mem 1 64 (unC u),.mem 1 3 [.int .i64 s]]) (by simp only[go_sem]) hl hr;unfold qoc qob;obtain⟨n,hn⟩:=wc (qoa u.rds s)
 rw[<-hn]at c1 ⊢;unfold unC at c1
 by_cases g:n<0
 ·have k1:(n<0)=True:=eqt g;rw[ipo g,ipo g];refine acO qxa ?_;simp (disch:=omega) only[qzA,unC,go_sem]
  repeat' first|(refine cA (c1) flk ?_;simp (disch:=omega) only[k1,go_sem])|exact v7|with_reducible apply aiA|exact clz|fail
 ·have k1:(n<0)=False:=eqf g;rw[ine g,ine g];refine acO qxa ?_;simp (disch:=omega) only[qzA,unC,go_sem]
  repeat' first|(refine cA (c1) flk ?_;simp (disch:=omega) only[k1,go_sem])|exact v7|with_reducible apply aiA|exact clz|fail
def rnX(x:Co):List wg:=(qbr (cmB x) x.col.length).map λr=> [.int .i64 (r.1:Int),.int .i64 (r.2:Int)]
theorem qBL(x:Co)(h:we):ACalls Tryz.prog 89 [.agg (coC x)] h (.fn (.func 144) [] [.ip (coC x)]) h:=by
 unfold coC;refine acO qAl ?_;simp (disch:=omega) only[qBw,go_sem]
 repeat' first|exact v7|fail
theorem qCK(u:Un)(f t:Int)(h:we):ACalls Tryz.prog 178 [.agg (unC u),.ip [.int .i64 f],.ip [.int .i64 t]] h (.bool (decide (u.frm<=f)&&decide (t<=u.to))) h:=by
 by_cases g:u.frm<=f
 ·have k1:(u.frm<=f)=True:=eqt g;rw[dqt g,Bool.true_and];refine acO qpz ?_;simp (disch:=omega) only[qqx,unC,k1,go_sem]
  repeat' first|exact v7|with_reducible apply aiA|exact clz|fail
 ·have k1:(u.frm<=f)=False:=eqf g;rw[dqf g,Bool.false_and];refine acO qpz ?_;simp (disch:=omega) only[qqx,unC,k1,go_sem]
  repeat' first|exact v7|with_reducible apply aiA|exact clz|fail
theorem qxO{p:Nat->Bool}{n f t:Nat}(h1:f<=t)(h2:t<=n)(h3: ∀j,f<=j->j<t->p j=false)(h4:t<n->p t=true):nxt p (n-f) f=t:=by
 obtain⟨a1,a2,a3,a4⟩:=qe0 p (n-f) f;rcases Nat.lt_trichotomy (nxt p (n-f) f) t with h|h|h
 ·have:=a4 om
  rw[h3 _ a1 h]at this;cases this
 ·exact h
 ·have:=h4 om
  rw[a3 t h1 h]at this;cases this
theorem qyh{x:Co}{pre rest:List (Nat×Nat)}{r:Nat×Nat}(h:qbr (cmB x) x.col.length=pre++r::rest): ∃g:pre.length<(rnX x).length,(rnX x)[pre.length]= [.int .i64 (r.1:Int),.int .i64 (r.2:Int)]:=by
 unfold rnX;refine⟨by rw[h];simp,?_⟩;simp only[h,List.getElem_map];rw[List.getElem_append_right (nlr _)];simp
structure RnS where
 f:Nat
 D:Nat
 pre:List (Nat×Nat)
 hh:we
theorem itR(x:Co)(ho:CoOk x)(hn:x.col.length<=1000000000):qlT Tryz.prog 144 [.ip (coC x)] (rnX x):=by
 intro h ts LI S E hS hE body start hts;have hcom:=λk h hk=>cmP (x:=x) (k:=k) h ho hk
 obtain⟨p,hp⟩:=wc (cmB x)
 have hxl:(rnX x).length=(qbr p x.col.length).length:=by rw[hp];simp[rnX]
 have hat:= @qyh x;rw[<-hp]at hat;rw[<-hp]at hcom;refine acQ qv5 ?_;simp (disch:=omega) only[quu,coC,go_sem];refine qr (T:=λi:RnS=>qX 36 [(0,.yld h.length),(1,.ip (coC x)),(3,.int .i64 i.f)]) (H:=λi=>i.hh++ [.lp .ready ts LI])
  (inv:=λi=>i.f<=x.col.length+1∧x.col.length-i.f<i.D∧qbr p x.col.length=i.pre++kz p x.col.length i.D i.f∧S i.pre.length i.hh) (m:=λi=>x.col.length+1-i.f) ⟨0,x.col.length+1,[],h⟩ ⟨nzl _,by simp only;omega,rfl,start⟩ (Wk.temps ?_) ?_
 ·(simp only[coC,go_sem,qg,qc,qf];try exact wa)
 rintro⟨f,D,pre,hh⟩ ⟨i1,i2,i3,i4⟩ K hK;simp only at i1 i2 i3 i4 hK;obtain⟨hlen,hlow⟩:=hS _ _ i4;have hb:(h++ [AObj.lp LS.ready ts LI]).length=(hh++ [AObj.lp LS.ready ts LI]).length:=by simp[hlen]
 by_cases hi:f<x.col.length
 ·have q0:((f:Int)<x.col.length)=True:=wh;obtain⟨D',rfl⟩: ∃D',D=D'+1:=⟨D-1,om⟩
  have hD:kz p x.col.length (D'+1) f=(if f<nxt p (x.col.length-f) f then [(f,nxt p (x.col.length-f) f)] else [])++kz p x.col.length D' (nxt p (x.col.length-f) f+1):=by
   conv=>lhs;unfold kz
   rw[ine om]
  simp (disch:=omega) only[coC,qw,q0,go_sem]
  repeat' first|with_reducible apply aiA|exact clz|fail
  refine qr (T:=λt:Nat=>qX 36 [(0,.yld h.length),(1,.ip (coC x)),(3,.int .i64 f),(4,.int .i64 t)]) (H:=λ_=>hh++ [.lp .ready ts LI])
   (inv:=λt=>f<=t∧t<=x.col.length∧ ∀j,f<=j->j<t->p j=false) (m:=λt=>x.col.length-t) f ⟨nlr _,om,λj h1 h2=>by omega⟩ (Wk.temps ?_) ?_
  ·(simp only[coC,go_sem,qg,qc,qa,qf];try exact wa)
  rintro t ⟨t1,t2,t3⟩ K2 hK2;have fin:(t<x.col.length->p t=true)->kz p x.col.length (D'+1) f=(if f<t then [(f,t)] else [])++kz p x.col.length D' (t+1):=λh4=>by
   rw[hD,qxO t1 t2 t3 h4]
  have hend: ∀hh',kz p x.col.length (D'+1) f=(if f<t then [(f,t)] else [])++kz p x.col.length D' (t+1)->S (pre++if f<t then [(f,t)] else []).length hh'->qbr p x.col.length=(pre++if f<t then [(f,t)] else [])++kz p x.col.length D' (t+1):=λhh' h1 _=>by
   rw[i3,h1,List.append_assoc]
  by_cases ht:t<x.col.length
  ·have q1:((t:Int)<x.col.length)=True:=wh;have c1:=λh=>hcom t h ht
   cases hpt:p t with
   |false=>
    rw[hpt]at c1;unfold coC qw at c1;simp (disch:=omega) only[coC,qw,q1,go_sem]
    repeat' first|(refine cG (λe=>c1 _) flk ?_;simp (disch:=omega) only[go_sem])|with_reducible apply aiA|exact clz|fail
    refine hK2 _ _ (t+1) ⟨om,ht,λj h1 h2=> ?_⟩ om (Wk.temps ?_)
    ·by_cases e:j=t
     ·subst e;exact hpt
     ·exact t3 j h1 om
    ·(simp only[coC,go_sem,qg,qc,qa,qf];try exact wa)
   |true=>
    rw[hpt]at c1;have hf:=fin λ_=>hpt
    unfold coC qw at c1
    by_cases gt:f<t
    ·have q2:((f:Int)<t)=True:=wh;rw[ipo gt]at hf;rw[hf]at i3;obtain⟨hdl,hxx⟩:=hat (pre:=pre) (r:=(f,t)) (rest:=kz p x.col.length D' (t+1)) i3;have hb':=body pre.length hh [] hdl i4;rw[hxx]at hb';have i5:qbr p x.col.length=(pre++ [(f,t)])++kz p x.col.length D' (t+1):=by rw[i3];simp
     simp (disch:=omega) only[coC,qw,q1,go_sem]
     repeat' first|(refine cG (λe=>c1 _) flk ?_;simp (disch:=omega) only[q2,go_sem])|with_reducible apply aiA|exact clz|fail
     ·exact⟨.ready,ts,LI,kC hlen⟩
     ·refine jZ.mono ?_ hb';rintro v h' ⟨hh',⟨rfl,hn',rfl⟩|⟨st,rfl,hs',rfl⟩⟩
      ·simp (disch:=omega) only[go_sem];refine hK _ _ ⟨t+1,D',pre++ [(f,t)],hh'⟩ ⟨by simp only;omega,by simp only;omega,i5,by simp only[lap,lco,lnl];exact hn'⟩ (by simp only;omega) (Wk.temps ?_)
       (simp only[coC,go_sem,qg,qc,qa,qf];try (repeat' first|(with_reducible apply aiA)|(apply qh;omega)|(apply qd;rfl)|exact qi))
      ·simp (disch:=omega) only[go_sem];obtain⟨r1,r2⟩:=(hE _ _ hs').ret (L:=LI) st hts;exact jA trivial r1 r2 ⟨_,.inr ⟨st,hs',rfl⟩⟩ (qi)
    ·have q2:((f:Int)<t)=False:=wi;rw[ine gt,lna]at hf;rw[hf]at i3;simp (disch:=omega) only[coC,qw,q1,go_sem]
     repeat' first|(refine cG (λe=>c1 _) flk ?_;simp (disch:=omega) only[q2,go_sem])|with_reducible apply aiA|exact clz|fail
     refine hK _ _ ⟨t+1,D',pre,hh⟩ ⟨by simp only;omega,by simp only;omega,i3,i4⟩ (by simp only;omega) (Wk.temps ?_)
     (simp only[coC,go_sem,qg,qc,qa,qf];try (repeat' first|(with_reducible apply aiA)|(apply qh;omega)|(apply qd;rfl)|exact qi))
  ·have q1:((t:Int)<x.col.length)=False:=wi;have hf:=fin λhx=>absurd hx ht
   by_cases gt:f<t
   ·have q2:((f:Int)<t)=True:=wh;rw[ipo gt]at hf;rw[hf]at i3;obtain⟨hdl,hxx⟩:=hat (pre:=pre) (r:=(f,t)) (rest:=kz p x.col.length D' (t+1)) i3;have hb':=body pre.length hh [] hdl i4;rw[hxx]at hb';have i5:qbr p x.col.length=(pre++ [(f,t)])++kz p x.col.length D' (t+1):=by rw[i3];simp
    simp (disch:=omega) only[coC,qw,q1,go_sem]
    repeat' first|(refine qj ( .bool false) ?_;simp (disch:=omega) only[q2,go_sem])|with_reducible apply aiA|exact clz|fail
    ·exact⟨.ready,ts,LI,kC hlen⟩
    ·refine jZ.mono ?_ hb';rintro v h' ⟨hh',⟨rfl,hn',rfl⟩|⟨st,rfl,hs',rfl⟩⟩
     ·simp (disch:=omega) only[go_sem];refine hK _ _ ⟨t+1,D',pre++ [(f,t)],hh'⟩ ⟨by simp only;omega,by simp only;omega,i5,by simp only[lap,lco,lnl];exact hn'⟩ (by simp only;omega) (Wk.temps ?_)
      (simp only[coC,go_sem,qg,qc,qa,qf];try (repeat' first|(with_reducible apply aiA)|(apply qh;omega)|(apply qd;rfl)|exact qi))
     ·simp (disch:=omega) only[go_sem];obtain⟨r1,r2⟩:=(hE _ _ hs').ret (L:=LI) st hts;exact jA trivial r1 r2 ⟨_,.inr ⟨st,hs',rfl⟩⟩ (qi)
   ·exact absurd (show f<t by omega) gt
 ·have q0:((f:Int)<x.col.length)=False:=wi;have hD:kz p x.col.length D f= []:=by
   cases D with
   |zero=>rfl
   |succ D=>unfold kz;rw[ipo om]
  rw[hD,lan]at i3;simp (disch:=omega) only[coC,qw,q0,go_sem]
  repeat' first|with_reducible apply aiA|exact clz|fail
  obtain⟨r1,r2⟩:=(hS _ _ i4).ret (L:=LI) .ready hts;exact jA trivial r1 r2 ⟨hh,.inl ⟨by rw[hxl,i3];exact i4,rfl⟩⟩ (qi)
structure qdB (l:List Un):Prop where
 n:l.length<=1000000000
 rd: ∀i,(l.getD i default).rds.length<=1000000000
 sr: ∀i j,((l.getD i default).rds.getD j default).src.length<=1000000000
 wd: ∀i j,((l.getD i default).rds.getD j default).words.length<=1000000000
structure qqf (L:List Rd):Prop where
 n:L.length<=1000000000
 sr: ∀j,(L.getD j default).src.length<=1000000000
 wd: ∀j,(L.getD j default).words.length<=1000000000
theorem qBD(a b:List Str)(h:we)(h1:a.length<=1000000000)(h2:b.length<=1000000000):ACalls Tryz.prog 36 [strs a,strs b] h (.bool (decide (a=b))) h:=by
 have c:=qz1 a b.length (λj=>b.getD j []) h h1 h2;have e:decide (a.length=b.length∧ ∀i,i<a.length->a.getD i []=b.getD i [])=decide (a=b):=decide_eq_decide.2 (To ([]:Str)).symm;rw[e]at c;exact c
theorem qCa(a b:List Int)(h:we)(h1:a.length<=1000000000)(h2:b.length<=1000000000):ACalls Tryz.prog 45 [qG a,qG b] h (.bool (decide (a=b))) h:=by
 have c:=qzZ qAe a.length b.length (λj=> .i (a.getD j 0)) (λj=> .i (b.getD j 0)) h (λ_ _ _=>rfl) om om;simp only[At.v,At.i.injEq]at c;have e:decide (a.length=b.length∧ ∀i,i<a.length->a.getD i 0=b.getD i 0)=decide (a=b):=decide_eq_decide.2 (To (0:Int)).symm;rw[e]at c;exact c
theorem qAR{r s:Rd}:r=s↔r.words=s.words∧r.src=s.src:=by
 cases r;cases s;simp
theorem qCR(r s:Rd)(h:we)(h1:r.words.length<=1000000000)(h2:s.words.length<=1000000000)(h3:r.src.length<=1000000000)(h4:s.src.length<=1000000000):ACalls Tryz.prog 238 [.agg (rdC r),.agg (rdC s)] h (.bool (decide (r=s))) h:=by
 have c1:=λh=>qBD r.words s.words h h1 h2
 have c2:=λh=>qCa r.src s.src h h3 h4
 have e:decide (r=s)=(decide (r.words=s.words)&&decide (r.src=s.src)):=by rw[<-Bool.decide_and];exact decide_eq_decide.2 qAR
 rw[e];obtain⟨a,ha⟩:=wc (decide (r.words=s.words))
 obtain⟨b,hb⟩:=wc (decide (r.src=s.src))
 rw[<-ha,<-hb];simp only[<-ha]at c1;simp only[<-hb]at c2;cases a with
 |true=>
  rw[Bool.true_and];refine acO qpG ?_;simp (disch:=omega) only[qqD,rdC,go_sem]
  repeat' first|((first|refine cA (c1 _) ?_ ?_|refine cG (λe=>c2 _) ?_ ?_);exact flk;simp (disch:=omega) only[go_sem])|exact v7|with_reducible apply aiA|exact clz|fail
 |false=>
  rw[Bool.false_and];refine acO qpG ?_;simp (disch:=omega) only[qqD,rdC,go_sem]
  repeat' first|(refine qj ( .bool false) ?_;simp (disch:=omega) only[go_sem])|(refine cA (c1 _) flk ?_;simp (disch:=omega) only[go_sem])|exact v7|fail
theorem efP(a b:List Rd)(h:we)(za:qqf a)(zb:qqf b):ACalls Tryz.prog 237 [jq a,jq b,.fn (.func 238) [] []] h (.bool (decide (a=b))) h:=by
 have ha:=za.n;have hb:=zb.n;have he:decide (a=b)=decide (a.length=b.length∧ ∀i,i<a.length->a.getD i default=b.getD i default):=decide_eq_decide.2 (To (default:Rd));obtain⟨R,hR⟩:=wc (decide (a=b))
 rw[<-hR]at he ⊢
 by_cases g:a.length=b.length
 case neg=>
  have k1:((a.length:Int)=b.length)=False:=wi;rw[dqf (λhc=>g hc.1)]at he;rw[he];refine acO qpF ?_;simp (disch:=omega) only[qqC,jq,k1,go_sem]
  repeat' first|exact v7|fail
 have k1:((a.length:Int)=b.length)=True:=wh;refine acO qpF ?_;simp (disch:=omega) only[qqC,jq,k1,go_sem];refine qr (T:=λi:Nat×AObj×AObj=>qX 32 [(1,jq b),(2,.fn (.func 238) [] []),(15,jq a),(16,.int .i64 a.length),(17,.int .i64 i.1)]) (H:=λi=>h++ [i.2.1,i.2.2])
  (inv:=λi=>i.1<=a.length∧qI [i.2.1] 0=true∧qI [i.2.2] 0=true∧ ∀j,j<i.1->a.getD j default=b.getD j default) (m:=λi=>a.length-i.1) (0,.emp 0,.emp 0) ⟨nzl _,rfl,rfl,λj hj=>absurd hj (nnz j)⟩ (Wk.temps ?_) ?_
 ·(simp only[jq,go_sem,qg,qc,qa,qf];try exact wa)
 rintro⟨i,O1,O2⟩ ⟨i1,j1,j2,i2⟩ K hK;simp only at i1 j1 j2 i2 hK;have j1': ∀m,qI (O1::m) 0=true:=λ_=>j1
 have j2': ∀m,qI (O2::m) 0=true:=λ_=>j2
 by_cases hi:i<a.length
 ·have k2:((i:Int)<a.length)=True:=wh;have k3:((i:Int)<b.length)=True:=wh;have c1:=λh=>qCR (a.getD i default) (b.getD i default) h (za.wd i) (zb.wd i) (za.sr i) (zb.sr i)
  have hno: ¬a.getD i default=b.getD i default->R=false:=λhx=>by rw[he];exact dqf λhc=>hx (hc.2 i hi)
  have hS:a.getD i default=b.getD i default-> ∀j,j<i+1->a.getD j default=b.getD j default:=λhx j hj=>by
   by_cases e:j=i
   ·subst e;exact hx
   ·exact i2 j om
  obtain⟨r,hr⟩:=wc (a.getD i default)
  obtain⟨s,hs⟩:=wc (b.getD i default)
  have er:=hr.symm;have es:=hs.symm;rw[er,es]at hno hS;simp only[er,es]at c1;unfold rdC at c1
  by_cases g2:r=s
  ·have k4:decide (r=s)=true:=dqt g2;simp only[k4]at c1;simp (disch:=omega) only[jq,rdC,k2,k3,er,es,j1',j2',go_sem]
   repeat' first|(refine qE (c1 _) ?_;simp (disch:=omega) only[go_sem])|with_reducible apply aiA|exact clz|fail
   refine hK _ _ (i+1,_,_) ⟨hi,rfl,rfl,hS g2⟩ (by simp only;omega) (Wk.temps ?_)
   (simp only[jq,go_sem,qg,qc,qa,qf];try (repeat' first|(with_reducible apply aiA)|(apply qh;omega)|(apply qd;rfl)|exact qi))
  ·have k4:decide (r=s)=false:=dqf g2;simp only[k4]at c1;rw[hno g2];simp (disch:=omega) only[jq,rdC,k2,k3,er,es,j1',j2',go_sem]
   repeat' first|(refine qE (c1 _) ?_;simp (disch:=omega) only[go_sem])|exact v7|with_reducible apply aiA|exact clz|fail
 ·have k2:((i:Int)<a.length)=False:=wi;rw[he,dqt ⟨g,λj hj=>i2 j om⟩];simp (disch:=omega) only[jq,k2,go_sem]
  repeat' first|exact v7|fail
theorem qCS(a b:List Rd)(h:we)(za:qqf a)(zb:qqf b):ACalls Tryz.prog 177 [jq a,jq b] h (.bool (decide (a=b))) h:=by
 have c1:=λh=>efP a b h za zb
 refine acO qwh ?_;simp (disch:=omega) only[quF,go_sem]
 repeat' first|(refine cA (c1 _) flk ?_;simp (disch:=omega) only[go_sem])|exact v8|fail
theorem qCI(r s:Rd)(h:we)(h1:r.words.length<=1000000000)(h2:s.words.length<=1000000000):ACalls Tryz.prog 148 [.agg (rdC r),.agg (rdC s)] h (.bool (decide (r.words=s.words))) h:=by
 have c1:=λh=>qBD r.words s.words h h1 h2
 refine acO qv9 ?_;simp (disch:=omega) only[quy,rdC,go_sem]
 repeat' first|(refine cA (c1 _) flk ?_;simp (disch:=omega) only[go_sem])|exact v7|fail
theorem fd1(r y:Rd)(h:we)(h1:r.words.length<=1000000000)(h2:y.words.length<=1000000000):ACalls Tryz.prog 195 [.agg (rdC y),.ip [.fn (.func 148) [] []],.ip (rdC r)] h (.bool (decide (r.words=y.words))) h:=by
 have c1:=λh=>qCI r y h h1 h2
 unfold rdC at c1;refine acO qwt ?_;simp (disch:=omega) only[quQ,rdC,go_sem]
 repeat' first|(refine qE (c1 _) ?_;simp (disch:=omega) only[go_sem])|exact v7|with_reducible apply aiA|exact clz|fail
theorem fdP(L:List Rd)(r:Rd)(h:we)(hL:L.length<=1000000000)(h1:r.words.length<=1000000000)(h2: ∀j,(L.getD j default).words.length<=1000000000):ACalls Tryz.prog 147 [jq L,.agg (rdC r),.fn (.func 148) [] []] h (.int .i64 (qe6 L r.words)) h:=by
 have c1: ∀k v k2 v2 H,qt k H=some (.mem v 97 (rdC r))->qt k2 H=some (.mem v2 192 [.fn (.func 148) [] []])->
   ACalls Tryz.prog 102 [jq L,.fn (.func 195) [] [.op k2 v2 0,.op k v 0]] H (.int .i64 (qe6 L r.words)) H:=λk v k2 v2 H hk hk2=>by
  have hc:=qM hk;have hc2:=qM hk2;unfold jq qe6;refine qcV qpv L.length (λj=>rdC (L.getD j default)) (λj=> .agg (rdC (L.getD j default))) _ [] [.op k2 v2 0,.op k v 0] _ H (λi _=>⟨rfl,by simp[kc,rdC],rfl,rfl,rfl⟩) (λi _=> ?_) om;refine ACalls.borrow ?_ rfl;have e:([AV.agg (rdC (L.getD i default))]++ [AV.op k2 v2 0,AV.op k v 0]).map (rei (λ_=>true) H 8)= [.agg (rdC (L.getD i default)),.ip [.fn (.func 148) [] []],.ip (rdC r)]:=by
   simp only[lca,lna,List.map_cons,List.map_nil,rei_op,if_true,hc,hc2,ipOf_some,List.drop_zero,rei_agg];rfl
  rw[lna,e];exact fd1 r _ _ h1 (h2 i)
 have c2:=c1 h.length 1 (h.length+1) 1 (h++ [.mem 1 97 (rdC r),.mem 1 192 [.fn (.func 148) [] []]]) (by rw[getO_app0];rfl) (by simp only[go_sem]);unfold rdC at c2;refine acO qv8 ?_;simp (disch:=omega) only[qux,rdC,go_sem]
 repeat' first|(refine cA (c2) flk ?_;simp (disch:=omega) only[go_sem])|exact v7|fail
def gnB(sec:Str)(sig:List Str):Bool:=jo (λi=>decide (20<(sig.getD i []).length)) sig.length||decide (20<sec.length)
theorem gnP(sec:Str)(sig:List Str)(h:we)(hn:sig.length<=9223372036854775807):ACalls Tryz.prog 86 [.str sec,strs sig] h (.bool (gnB sec sig)) h:=by
 obtain⟨R,hR⟩:=wc (gnB sec sig)
 rw[<-hR];unfold gnB at hR;refine acO qAk ?_;simp (disch:=omega) only[qBv,strs,go_sem];refine qr (T:=λi:Nat=>qX 21 [(0,.str sec),(1,strs sig),(5,.int .i64 i)]) (H:=λ_=>h) (inv:=λi=>i<=sig.length∧ ∀j,j<i->(λi=>decide (20<(sig.getD i []).length)) j=false) (m:=λi=>sig.length-i) 0 ⟨nzl _,λj hj=>absurd hj (nnz j)⟩ (Wk.temps ?_) ?_
 ·(simp only[strs,go_sem,qg,qc,qa,qf];try exact wa)
 rintro i ⟨i1,i2⟩ K hK
 by_cases hi:i<sig.length
 ·have k1:((i:Int)<sig.length)=True:=wh
  by_cases g:20<(sig.getD i []).length
  ·have hV:R=true:=by rw[hR,qN.2 ⟨i,hi,dqt g⟩];rfl
   obtain⟨s,hs⟩:=wc (sig.getD i [])
   have es:=hs.symm;rw[es]at g;have k2:((20:Int)<s.length)=True:=wh;rw[hV];simp (disch:=omega) only[strs,k1,k2,es,go_sem]
   repeat' first|exact v8|with_reducible apply aiA|exact clz|fail
  ·have i3:=j9 i2 (dqf g);obtain⟨s,hs⟩:=wc (sig.getD i [])
   have es:=hs.symm;rw[es]at g;have k2:((20:Int)<s.length)=False:=wi;simp (disch:=omega) only[strs,k1,k2,es,go_sem]
   repeat' first|with_reducible apply aiA|exact clz|fail
   refine hK _ _ (i+1) ⟨hi,i3⟩ om (Wk.temps ?_)
   (simp only[strs,go_sem,qg,qc,qa,qf];try (repeat' first|(with_reducible apply aiA)|(apply qh;omega)|(apply qd;rfl)|exact qi))
 have k1:((i:Int)<sig.length)=False:=wi;rw[qp.2 (λj hj=>i2 j om),Bool.false_or]at hR;have e1:decide ((20:Int)<sec.length)=decide (20<sec.length):=decide_eq_decide.2 om;rw[hR,<-e1];simp (disch:=omega) only[strs,k1,go_sem]
 repeat' first|exact v8|fail
def UF(t:Tk):Bool:=decide (12<t.text.length)||(decide (12<t.norm.length)||(decide (20<t.page.length)||decide (20<t.name.length)))
def qaS(i:Nat)(r:List Tk):Bool:=decide (6<r.length)||((decide (4<=i)&&decide (1<r.length))||jo (λk=>UF (r.getD k default)) r.length)
def prN(L:List (List Tk)):Nat->Nat
 |0=>1
 |i+1=>if i<4 then prN L i*((L.getD i []).length+1) else prN L i
def gtB(L:List (List Tk)):Bool:=jo (λi=>qaS i (L.getD i [])) L.length||(decide (400<prN L L.length)||((decide (6<L.length)&&decide (L.length<=32))||decide (34<L.length)))
theorem qx3{L:List (List Tk)}: ∀ {n:Nat},(∀i,i<n->(L.getD i []).length<=6)->prN L n<=7^min n 4:=by
 intro n
 induction n with
 |zero=>intro _;exact nlr _
 |succ n ih=>
  intro h;have h1:=ih λi hi=>h i om
  have h2:=h n om;unfold prN;split
  ·rename_i g;rw[show min n 4=n by omega]at h1;rw[show min (n+1) 4=n+1 by omega,Nat.pow_succ];exact Nat.mul_le_mul h1 om
  ·rename_i g;rw[show min n 4=4 by omega]at h1;rw[show min (n+1) 4=4 by omega];exact h1
theorem gtP(L:List (List Tk))(h:we)(hn:L.length<=9223372036854775807):ACalls Tryz.prog 85 [qm L] h (.bool (gtB L)) h:=by
 obtain⟨R,hR⟩:=wc (gtB L)
 rw[<-hR];unfold gtB at hR;refine acO qAj ?_;simp (disch:=omega) only[qBu,qm,go_sem];refine qr (T:=λi:Nat×AObj=>qX 97 [(0,qm L),(3,.int .i64 (prN L i.1:Int)),(4,.int .i64 i.1)]) (H:=λi=>h++ [i.2]) (inv:=λi=>i.1<=L.length∧qI [i.2] 0=true∧ ∀j,j<i.1->(λi=>qaS i (L.getD i [])) j=false) (m:=λi=>L.length-i.1) (0,.emp 0) ⟨nzl _,rfl,λj hj=>absurd hj (nnz j)⟩ (Wk.temps ?_) ?_
 ·(simp only[qm,prN,go_sem,qg,qc,qa,qf];try exact wa)
 rintro⟨i,O⟩ ⟨i1,i2,i3⟩ K hK;simp only at i1 i2 i3 hK;have i2': ∀m,qI (O::m) 0=true:=λ_=>i2
 have h6: ∀j,j<i->(L.getD j []).length<=6:=λj hj=>by
  have:=i3 j hj
  unfold qaS at this;simp only[Bool.or_eq_false_iff,decide_eq_false_iff_not]at this;omega
 have hp:=qx3 h6;have hp2:prN L i<=2401:=by
  have:7^min i 4<=7^4:=Nat.pow_le_pow_right om (Nat.min_le_right _ _)
  have h3:(7:Nat)^4=2401:=rfl;omega
 have hst:prN L (i+1)=if i<4 then prN L i*((L.getD i []).length+1) else prN L i:=rfl
 obtain⟨q,hq⟩:=wc (prN L i)
 have eq:=hq.symm;rw[eq]at hp2 hst
 by_cases hi:i<L.length
 ·have k1:((i:Int)<L.length)=True:=wh;have hit:qaS i (L.getD i [])=true->R=true:=λhc=>by rw[hR,qN.2 ⟨i,hi,hc⟩];rfl
  have i4:=λhc=>j9 (p:=λi=>qaS i (L.getD i [])) i3 hc
  obtain⟨r,hr⟩:=wc (L.getD i [])
  have er:=hr.symm;rw[er]at hst hit;simp only[er]at i4;have hB:qaS i r=(decide (6<r.length)||((decide (4<=i)&&decide (1<r.length))||jo (λk=>UF (r.getD k default)) r.length)):=rfl
  by_cases g1:6<r.length
  ·have k2:((6:Int)<r.length)=True:=wh;rw[hit (by rw[hB,dqt g1];rfl)];simp (disch:=omega) only[qm,zP,k1,k2,er,eq,go_sem]
   repeat' first|exact v7|(with_reducible first|intro _|apply aiA)|exact clz|fail
  have k2:((6:Int)<r.length)=False:=wi;rw[dqf g1,Bool.false_or]at hB;have hq':q*(r.length+1)<=2401*7:=Nat.mul_le_mul hp2 om;have hmul:(q:Int)*((r.length:Int)+1)=((q*(r.length+1):Nat):Int):=by push_cast;rfl
  have m2:(((q*(r.length+1):Nat):Int)<=9223372036854775807)=True:=wh;have m3:(-9223372036854775808<=((q*(r.length+1):Nat):Int))=True:=wh
  by_cases gg:4<=i∧1<r.length
  ·have k3:((4:Int)<=i)=True:=wh;have k5:((1:Int)<r.length)=True:=wh;rw[hit (by rw[hB,dqt gg.1,dqt gg.2];rfl)];simp (disch:=omega) only[qm,zP,k1,k2,k3,k5,er,eq,go_sem]
   repeat' first|exact v7|with_reducible apply aiA|exact clz|fail
  have hB':qaS i r=jo (λk=>UF (r.getD k default)) r.length:=by
   rw[hB]
   have:(decide (4<=i)&&decide (1<r.length))=false:=by
    rw[<-Bool.decide_and];exact dqf gg
   rw[this,Bool.false_or]
  rcases Nat.lt_or_ge i 4 with gi|gi
  ·have k3:((4:Int)<=i)=False:=wi;have k4:((i:Int)<4)=True:=wh;rw[ipo gi]at hst;simp (disch:=omega) only[qm,zP,k1,k2,k3,k4,er,eq,hmul,go_sem]
   repeat' first|(apply qb;exact rvk;simp only[go_sem];apply qd)|(with_reducible first|intro _|apply aiA)|exact clz|fail
   refine qr (T:=λk:Nat×AObj=>qX 97 [(0,qm L),(3,.int .i64 ((q*(r.length+1):Nat):Int)),(4,.int .i64 i),(5,.int .i64 k.1)]) (H:=λk=>h++ [k.2]) (inv:=λk=>k.1<=r.length∧qI [k.2] 0=true∧ ∀j,j<k.1->(λk=>UF (r.getD k default)) j=false) (m:=λk=>r.length-k.1) (0,O) ⟨nzl _,i2,λj hj=>absurd hj (nnz j)⟩ (Wk.temps ?_) ?_
   ·(simp only[qm,go_sem,qg,qc,qa,qf];try exact wa)
   rintro⟨k,O'⟩ ⟨u1,u2,u3⟩ K2 hK2;simp only at u1 u2 u3 hK2;have u2': ∀m,qI (O'::m) 0=true:=λ_=>u2
   by_cases hk:k<r.length
   ·have t1:((k:Int)<r.length)=True:=wh;have hbit:UF (r.getD k default)=true->R=true:=λhc=>hit (by rw[hB',qN];exact⟨k,hk,hc⟩)
    have u4:=λhc=>j9 (p:=λk=>UF (r.getD k default)) u3 hc
    obtain⟨t,ht⟩:=wc (r.getD k default)
    have et:=ht.symm;rw[et]at hbit;simp only[et]at u4;have hT:UF t=(decide (12<t.text.length)||(decide (12<t.norm.length)||(decide (20<t.page.length)||decide (20<t.name.length)))):=rfl
    by_cases gA:12<t.text.length
    ·have qA:((12:Int)<t.text.length)=True:=wh;rw[hbit (by rw[hT,dqt gA];simp)];simp (disch:=omega) only[qm,zP,tkC,k1,t1,er,et,u2',qA,go_sem]
     repeat' first|exact v7|with_reducible apply aiA|exact clz|fail
    have qA:((12:Int)<t.text.length)=False:=wi
    by_cases gB:12<t.norm.length
    ·have qB:((12:Int)<t.norm.length)=True:=wh;rw[hbit (by rw[hT,dqt gB];simp)];simp (disch:=omega) only[qm,zP,tkC,k1,t1,er,et,u2',qA,qB,go_sem]
     repeat' first|exact v7|with_reducible apply aiA|exact clz|fail
    have qB:((12:Int)<t.norm.length)=False:=wi
    by_cases gC:20<t.page.length
    ·have qC:((20:Int)<t.page.length)=True:=wh;rw[hbit (by rw[hT,dqt gC];simp)];simp (disch:=omega) only[qm,zP,tkC,k1,t1,er,et,u2',qA,qB,qC,go_sem]
     repeat' first|exact v7|with_reducible apply aiA|exact clz|fail
    have qC:((20:Int)<t.page.length)=False:=wi
    by_cases gD:20<t.name.length
    ·have qD:((20:Int)<t.name.length)=True:=wh;rw[hbit (by rw[hT,dqt gD];simp)];simp (disch:=omega) only[qm,zP,tkC,k1,t1,er,et,u2',qA,qB,qC,qD,go_sem]
     repeat' first|exact v7|with_reducible apply aiA|exact clz|fail
    have qD:((20:Int)<t.name.length)=False:=wi;simp (disch:=omega) only[qm,zP,tkC,k1,t1,er,et,u2',qA,qB,qC,qD,go_sem]
    repeat' first|with_reducible apply aiA|exact clz|fail
    refine hK2 _ _ (k+1,_) ⟨hk,rfl,u4 (by rw[hT,dqf gA,dqf gB,dqf gC,dqf gD];rfl)⟩ (by simp only;omega) (Wk.temps ?_)
    (simp only[qm,zP,tkC,go_sem,qg,qc,qa,qf];try (repeat' first|(with_reducible apply aiA)|(apply qh;omega)|(apply qd;rfl)|exact qi))
   ·have t1:((k:Int)<r.length)=False:=wi;have hz:qaS i r=false:=by rw[hB',qp];exact λj hj=>u3 j om
    simp (disch:=omega) only[qm,zP,t1,er,go_sem]
    repeat' first|with_reducible apply aiA|exact clz|fail
    refine hK _ _ (i+1,O') ⟨hi,u2,i4 hz⟩ (by simp only;omega) ?_;simp only[hst];refine Wk.temps ?_
    (simp only[qm,go_sem,qg,qc,qa,qf];try (repeat' first|(with_reducible apply aiA)|(apply qh;omega)|(apply qd;rfl)|exact qi))
  ·have k3:((4:Int)<=i)=True:=wh;have k4:((i:Int)<4)=False:=wi;have k5:((1:Int)<r.length)=False:=wi;rw[ine om]at hst;simp (disch:=omega) only[qm,zP,k1,k2,k3,k4,k5,er,eq,hmul,go_sem]
   repeat' first|with_reducible apply aiA|exact clz|fail
   refine qr (T:=λk:Nat×AObj=>qX 97 [(0,qm L),(3,.int .i64 (q:Int)),(4,.int .i64 i),(5,.int .i64 k.1)]) (H:=λk=>h++ [k.2]) (inv:=λk=>k.1<=r.length∧qI [k.2] 0=true∧ ∀j,j<k.1->(λk=>UF (r.getD k default)) j=false) (m:=λk=>r.length-k.1) (0,O) ⟨nzl _,i2,λj hj=>absurd hj (nnz j)⟩ (Wk.temps ?_) ?_
   ·(simp only[qm,go_sem,qg,qc,qa,qf];try exact wa)
   rintro⟨k,O'⟩ ⟨u1,u2,u3⟩ K2 hK2;simp only at u1 u2 u3 hK2;have u2': ∀m,qI (O'::m) 0=true:=λ_=>u2
   by_cases hk:k<r.length
   ·have t1:((k:Int)<r.length)=True:=wh;have hbit:UF (r.getD k default)=true->R=true:=λhc=>hit (by rw[hB',qN];exact⟨k,hk,hc⟩)
    have u4:=λhc=>j9 (p:=λk=>UF (r.getD k default)) u3 hc
    obtain⟨t,ht⟩:=wc (r.getD k default)
    have et:=ht.symm;rw[et]at hbit;simp only[et]at u4;have hT:UF t=(decide (12<t.text.length)||(decide (12<t.norm.length)||(decide (20<t.page.length)||decide (20<t.name.length)))):=rfl
    by_cases gA:12<t.text.length
    ·have qA:((12:Int)<t.text.length)=True:=wh;rw[hbit (by rw[hT,dqt gA];simp)];simp (disch:=omega) only[qm,zP,tkC,k1,t1,er,et,u2',qA,go_sem]
     repeat' first|exact v7|with_reducible apply aiA|exact clz|fail
    have qA:((12:Int)<t.text.length)=False:=wi
    by_cases gB:12<t.norm.length
    ·have qB:((12:Int)<t.norm.length)=True:=wh;rw[hbit (by rw[hT,dqt gB];simp)];simp (disch:=omega) only[qm,zP,tkC,k1,t1,er,et,u2',qA,qB,go_sem]
     repeat' first|exact v7|with_reducible apply aiA|exact clz|fail
    have qB:((12:Int)<t.norm.length)=False:=wi
    by_cases gC:20<t.page.length
    ·have qC:((20:Int)<t.page.length)=True:=wh;rw[hbit (by rw[hT,dqt gC];simp)];simp (disch:=omega) only[qm,zP,tkC,k1,t1,er,et,u2',qA,qB,qC,go_sem]
     repeat' first|exact v7|with_reducible apply aiA|exact clz|fail
    have qC:((20:Int)<t.page.length)=False:=wi
    by_cases gD:20<t.name.length
    ·have qD:((20:Int)<t.name.length)=True:=wh;rw[hbit (by rw[hT,dqt gD];simp)];simp (disch:=omega) only[qm,zP,tkC,k1,t1,er,et,u2',qA,qB,qC,qD,go_sem]
     repeat' first|exact v7|with_reducible apply aiA|exact clz|fail
    have qD:((20:Int)<t.name.length)=False:=wi;simp (disch:=omega) only[qm,zP,tkC,k1,t1,er,et,u2',qA,qB,qC,qD,go_sem]
    repeat' first|with_reducible apply aiA|exact clz|fail
    refine hK2 _ _ (k+1,_) ⟨hk,rfl,u4 (by rw[hT,dqf gA,dqf gB,dqf gC,dqf gD];rfl)⟩ (by simp only;omega) (Wk.temps ?_)
    (simp only[qm,zP,tkC,go_sem,qg,qc,qa,qf];try (repeat' first|(with_reducible apply aiA)|(apply qh;omega)|(apply qd;rfl)|exact qi))
   ·have t1:((k:Int)<r.length)=False:=wi;have hz:qaS i r=false:=by rw[hB',qp];exact λj hj=>u3 j om
    simp (disch:=omega) only[qm,zP,t1,er,go_sem]
    repeat' first|with_reducible apply aiA|exact clz|fail
    refine hK _ _ (i+1,O') ⟨hi,u2,i4 hz⟩ (by simp only;omega) ?_;simp only[hst];refine Wk.temps ?_
    (simp only[qm,go_sem,qg,qc,qa,qf];try (repeat' first|(with_reducible apply aiA)|(apply qh;omega)|(apply qd;rfl)|exact qi))
 have k1:((i:Int)<L.length)=False:=wi;obtain rfl:i=L.length:=by omega
 rw[qp.2 (λj hj=>i3 j hj),Bool.false_or,<-hq]at hR
 by_cases g1:400<q
 ·have k2:((400:Int)<q)=True:=wh;rw[hR,dqt g1,Bool.true_or];simp (disch:=omega) only[qm,k1,k2,eq,go_sem]
  repeat' first|exact v7|fail
 have k2:((400:Int)<q)=False:=wi;rw[dqf g1,Bool.false_or]at hR
 by_cases g2:6<L.length
 ·have k3:((6:Int)<L.length)=True:=wh
  by_cases g3:L.length<=32
  ·have k4:((L.length:Int)<=32)=True:=wh;rw[hR,dqt g2,dqt g3];simp (disch:=omega) only[qm,k1,k2,k3,k4,eq,go_sem]
   repeat' first|exact v7|fail
  have k4:((L.length:Int)<=32)=False:=wi;have e1:decide ((34:Int)<L.length)=decide (34<L.length):=decide_eq_decide.2 om;rw[hR,dqt g2,dqf g3,<-e1];simp (disch:=omega) only[qm,k1,k2,k3,k4,eq,go_sem]
  repeat' first|exact v7|fail
 have k3:((6:Int)<L.length)=False:=wi;have e1:decide ((34:Int)<L.length)=decide (34<L.length):=decide_eq_decide.2 om;rw[hR,dqf g2,<-e1];simp (disch:=omega) only[qm,k1,k2,k3,eq,go_sem]
 repeat' first|exact v7|fail
structure CoB (x:Co):Prop where
 sg:x.sig.length<=9223372036854775807
 tk:x.tok.length<=9223372036854775807
 cl:x.col.length<=9223372036854775807
def qry(x:Co):Bool:=jo (λi=>decide (36<(x.col.getD i []).length)) x.col.length||(gtB x.tok||(decide (24<x.col.length)||(decide (36<x.sig.length)||gnB x.sec x.sig)))
theorem qCg(x:Co)(h:we)(hb:CoB x):ACalls Tryz.prog 28 [.agg (coC x)] h (.bool (qry x)) h:=by
 have c1:=λh=>gtP x.tok h hb.tk
 have c2:=λh=>gnP x.sec x.sig h hb.sg
 have hc:=hb.cl;obtain⟨R,hR⟩:=wc (qry x)
 rw[<-hR];unfold qry at hR;unfold qm at c1;unfold strs at c2;refine acO qAa ?_;simp (disch:=omega) only[qBo,coC,qw,go_sem];refine qr (T:=λi:Nat=>qX 40 [(1,.op h.length 1 0),(3,.int .i64 i)]) (H:=λ_=>h++ [.mem 1 26 (coC x)]) (inv:=λi=>i<=x.col.length∧ ∀j,j<i->(λi=>decide (36<(x.col.getD i []).length)) j=false) (m:=λi=>x.col.length-i) 0 ⟨nzl _,λj hj=>absurd hj (nnz j)⟩ (Wk.temps ?_) ?_
 ·(simp only[go_sem,qg,qc,qa,qf];try exact wa)
 rintro i ⟨i1,i2⟩ K hK
 by_cases hi:i<x.col.length
 ·have k1:((i:Int)<x.col.length)=True:=wh
  by_cases g:36<(x.col.getD i []).length
  ·have hV:R=true:=by rw[hR,qN.2 ⟨i,hi,dqt g⟩];rfl
   obtain⟨s,hs⟩:=wc (x.col.getD i [])
   have es:=hs.symm;rw[es]at g;have k2:((36:Int)<s.length)=True:=wh;rw[hV];simp (disch:=omega) only[coC,qw,qG,k1,k2,es,go_sem]
   repeat' first|exact v7|with_reducible apply aiA|exact clz|fail
  ·have i3:=j9 i2 (dqf g);obtain⟨s,hs⟩:=wc (x.col.getD i [])
   have es:=hs.symm;rw[es]at g;have k2:((36:Int)<s.length)=False:=wi;simp (disch:=omega) only[coC,qw,qG,k1,k2,es,go_sem]
   repeat' first|with_reducible apply aiA|exact clz|fail
   refine hK _ _ (i+1) ⟨hi,i3⟩ om (Wk.temps ?_)
   (simp only[go_sem,qg,qc,qa,qf];try (repeat' first|(with_reducible apply aiA)|(apply qh;omega)|(apply qd;rfl)|exact qi))
 have k1:((i:Int)<x.col.length)=False:=wi;rw[qp.2 (λj hj=>i2 j om),Bool.false_or]at hR;cases gA:gtB x.tok with
 |true=>
  rw[gA]at hR c1;rw[hR,Bool.true_or];simp (disch:=omega) only[coC,qw,k1,qm,go_sem]
  repeat' first|(refine qj ( .bool false) ?_;simp (disch:=omega) only[go_sem])|(refine cA (c1 _) flk ?_;simp (disch:=omega) only[go_sem])|exact v7|with_reducible apply aiA|exact clz|fail
 |false=>
 rw[gA]at hR c1;rw[Bool.false_or]at hR
 by_cases g2:24<x.col.length
 ·have k2:((24:Int)<x.col.length)=True:=wh;rw[hR,dqt g2,Bool.true_or];simp (disch:=omega) only[coC,qw,k1,qm,go_sem]
  repeat' first|(refine qj ( .bool false) ?_;simp (disch:=omega) only[go_sem])|(refine cA (c1 _) flk ?_;simp (disch:=omega) only[k2,go_sem])|exact v7|with_reducible apply aiA|exact clz|fail
 have k2:((24:Int)<x.col.length)=False:=wi;rw[dqf g2,Bool.false_or]at hR
 by_cases g3:36<x.sig.length
 ·have k3:((36:Int)<x.sig.length)=True:=wh;rw[hR,dqt g3,Bool.true_or];simp (disch:=omega) only[coC,qw,k1,qm,strs,go_sem]
  repeat' first|(refine qj ( .bool false) ?_;simp (disch:=omega) only[go_sem])|(refine cA (c1 _) flk ?_;simp (disch:=omega) only[k2,k3,go_sem])|exact v7|with_reducible apply aiA|exact clz|fail
 have k3:((36:Int)<x.sig.length)=False:=wi;rw[dqf g3,Bool.false_or]at hR;rw[hR];simp (disch:=omega) only[coC,qw,k1,qm,strs,go_sem]
 repeat' first|((first|refine cA (c1 _) ?_ ?_|refine cG (λe=>c2 _) ?_ ?_);exact flk;simp (disch:=omega) only[k2,k3,go_sem])|exact v7|with_reducible apply aiA|exact clz|fail
def guR(u:Un)(k:Nat):Bool:=decide (8<(u.rds.getD k default).src.length)||gwB (u.rds.getD k default).words 8
def guB(u:Un):Bool:=decide (6<u.rds.length)||jo (guR u) u.rds.length
def qrz(l:List Un):Bool:=jo (λi=>guB (l.getD i default)) l.length||decide (12<l.length)
structure UnB (l:List Un):Prop where
 n:l.length<=9223372036854775807
 rd: ∀i,(l.getD i default).rds.length<=9223372036854775807
 wd: ∀i j,((l.getD i default).rds.getD j default).words.length<=9223372036854775807
theorem qCh(l:List Un)(h:we)(hb:UnB l):ACalls Tryz.prog 93 [zM l] h (.bool (qrz l)) h:=by
 have hn:=hb.n;obtain⟨R,hR⟩:=wc (qrz l)
 rw[<-hR];unfold qrz at hR;refine acO qAo ?_;simp (disch:=omega) only[qBz,zM,go_sem];refine qr (T:=λi:Nat=>qX 54 [(0,zM l),(3,.int .i64 i)]) (H:=λ_=>h) (inv:=λi=>i<=l.length∧ ∀j,j<i->(λi=>guB (l.getD i default)) j=false) (m:=λi=>l.length-i) 0 ⟨nzl _,λj hj=>absurd hj (nnz j)⟩ (Wk.temps ?_) ?_
 ·(simp only[zM,go_sem,qg,qc,qa,qf];try exact wa)
 rintro i ⟨i1,i2⟩ K hK
 by_cases hi:i<l.length
 ·have k1:((i:Int)<l.length)=True:=wh;have hit:guB (l.getD i default)=true->R=true:=λhc=>by rw[hR,qN.2 ⟨i,hi,hc⟩];rfl
  have i3:=λhc=>j9 (p:=λi=>guB (l.getD i default)) i2 hc
  have hrd:=hb.rd i;have hwd:=hb.wd i;obtain⟨u,hu⟩:=wc (l.getD i default)
  have eu:=hu.symm;rw[eu]at hit hrd;simp only[eu]at i3 hwd;have hB:guB u=(decide (6<u.rds.length)||jo (guR u) u.rds.length):=rfl
  by_cases g1:6<u.rds.length
  ·have k2:((6:Int)<u.rds.length)=True:=wh;rw[hit (by rw[hB,dqt g1];rfl)];simp (disch:=omega) only[zM,unC,jq,k1,k2,eu,go_sem]
   repeat' first|exact v8|with_reducible apply aiA|exact clz|fail
  have k2:((6:Int)<u.rds.length)=False:=wi;rw[dqf g1,Bool.false_or]at hB;simp (disch:=omega) only[zM,unC,jq,k1,k2,eu,go_sem]
  repeat' first|with_reducible apply aiA|exact clz|fail
  refine qr (T:=λk:Nat=>qX 54 [(0,zM l),(3,.int .i64 i),(4,.int .i64 k)]) (H:=λ_=>h) (inv:=λk=>k<=u.rds.length∧ ∀j,j<k->guR u j=false) (m:=λk=>u.rds.length-k) 0 ⟨nzl _,λj hj=>absurd hj (nnz j)⟩ (Wk.temps ?_) ?_
  ·(simp only[zM,go_sem,qg,qc,qa,qf];try exact wa)
  rintro k ⟨u1,u2⟩ K2 hK2
  by_cases hk:k<u.rds.length
  ·have t1:((k:Int)<u.rds.length)=True:=wh;have hkit:guR u k=true->R=true:=λhc=>hit (by rw[hB,qN];exact⟨k,hk,hc⟩)
   have u3:=λhc=>j9 (p:=guR u) u2 hc
   have hG:guR u k=(decide (8<(u.rds.getD k default).src.length)||gwB (u.rds.getD k default).words 8):=rfl;have c1:=λh=>gwP (u.rds.getD k default).words 8 h (hwd k)
   obtain⟨r,hr⟩:=wc (u.rds.getD k default)
   have er:=hr.symm;simp only[er]at hG c1;unfold strs at c1;have z8:((8:Nat):Int)=8:=rfl;simp only[z8]at c1
   by_cases g2:8<r.src.length
   ·have t2:((8:Int)<r.src.length)=True:=wh;rw[hkit (by rw[hG,dqt g2];rfl)];simp (disch:=omega) only[zM,unC,jq,rdC,qG,t1,eu,er,k1,t2,go_sem]
    repeat' first|(refine qj ( .bool false) ?_;simp (disch:=omega) only[go_sem])|exact v8|with_reducible apply aiA|exact clz|fail
   have t2:((8:Int)<r.src.length)=False:=wi;rw[dqf g2,Bool.false_or]at hG;cases g3:gwB r.words 8 with
   |true=>
    rw[g3]at hG c1;rw[hkit hG];simp (disch:=omega) only[zM,unC,jq,rdC,qG,t1,eu,er,strs,k1,t2,go_sem]
    repeat' first|(refine cG (λe=>c1 _) flk ?_;simp (disch:=omega) only[go_sem])|exact v8|with_reducible apply aiA|exact clz|fail
   |false=>
    rw[g3]at hG c1;simp (disch:=omega) only[zM,unC,jq,rdC,qG,t1,eu,er,strs,k1,t2,go_sem]
    repeat' first|(refine cG (λe=>c1 _) flk ?_;simp (disch:=omega) only[go_sem])|with_reducible apply aiA|exact clz|fail
    refine hK2 _ _ (k+1) ⟨hk,u3 hG⟩ om (Wk.temps ?_)
    (simp only[zM,go_sem,qg,qc,qa,qf];try (repeat' first|(with_reducible apply aiA)|(apply qh;omega)|(apply qd;rfl)|exact qi))
  ·have t1:((k:Int)<u.rds.length)=False:=wi;have hz:guB u=false:=by rw[hB,qp];exact λj hj=>u2 j om
   simp (disch:=omega) only[zM,unC,jq,k1,t1,eu,go_sem]
   repeat' first|with_reducible apply aiA|exact clz|fail
   refine hK _ _ (i+1) ⟨hi,i3 hz⟩ om (Wk.temps ?_)
   (simp only[zM,go_sem,qg,qc,qa,qf];try (repeat' first|(with_reducible apply aiA)|(apply qh;omega)|(apply qd;rfl)|exact qi))
 have k1:((i:Int)<l.length)=False:=wi;rw[qp.2 (λj hj=>i2 j om),Bool.false_or]at hR;have e1:decide ((12:Int)<l.length)=decide (12<l.length):=decide_eq_decide.2 om;rw[hR,<-e1];simp (disch:=omega) only[zM,k1,go_sem]
 repeat' first|exact v8|fail
end RC
end
section
open Go Go.Proofs AF
def qbL:List Nat:= []
def qBp:C:=
 (vS [ON 2 (.nilo 0 1 9) []] (vS [ON 3 (.nilo 1 1 9) []] ((vS [MV 6 0,O1 7 .len 6,vM 8 0] (C.block 0 (vS [BI 9 .lss 8 7] ((vU 9 0).seq ((C.block 1 (vS [O2 10 (.idxA 7) 6 8,O1 11
 (.load (some 7)) 10,⟨some 5,none,.alloc 2 36 [.str [],i6 0,i6 0,i6 0,.bool false,.bool false,.str []],[]⟩,ST 7 5 11] (vW [MV 12 3,vL 13 0 5,LD 14 13,⟨some 15,none,.bslc 3 1 1 9
 [.str []] [(0,1)],[.t 14]⟩,O2 16 (.app 4 1 9 16) 12 15,MV 3 16]))).seq (vW [vN 17 .add 8 1,MV 8 17])))).loop)).seq (vV [MV 18 3,MV 2 18]))))
theorem qAc:qJ Tryz.prog 37 19 5 [RV.tmp 2] qBp:=fi Tryz.f37 [2,3,5,15,16] qbL []
def qvt:C:=
 (vS [O1 2 (.box 0 26) 0,vM 4 0] ((vS [O1 5 (.load (some 4)) 2,O1 6 (.call 67 true) 5,vN 7 .neq 6 0] (vT 7 (vV [vM 4 1]))).seq ((vS [O1 8 (.load (some 4)) 2,MV 9 1,O2 10 (.call
 69 true) 8 9,vN 11 .neq 10 0] (vT 11 (vV [vM 4 20]))).seq (vV [vM 4 0]))))
theorem qm8:qJ Tryz.prog 75 12 1 [RV.tmp 4] qvt:=fi Tryz.f75 [2] qbL []
def quh:C:=
 (vS [ON 4 (.nilo 0 1 9) []] (vS [ON 5 (.nilo 1 1 9) []] ((vS [MV 8 0,O1 9 .len 8,vM 10 0] (C.block 0 (vS [BI 11 .lss 10 9] ((vU 11 0).seq ((C.block 1 (vS [O2 12 (.idxA 7) 8
 10,O1 13 (.load (some 7)) 12,⟨some 7,none,.alloc 2 36 [.str [],i6 0,i6 0,i6 0,.bool false,.bool false,.str []],[]⟩,ST 7 7 13] (vS [vL 14 2 7,LD 15 14,MV 16 1,BI 17 .eql 15 16]
 (vT 17 (vW [MV 18 5,vL 19 0 7,LD 20 19,⟨some 21,none,.bslc 3 1 1 9 [.str []] [(0,1)],[.t 20]⟩,O2 22 (.app 4 1 9 16) 18 21,MV 5 22]))))).seq (vW [vN 23 .add 10 1,MV 10
 23])))).loop)).seq (vV [MV 24 5,MV 4 24]))))
theorem qvS:qJ Tryz.prog 101 25 5 [RV.tmp 4] quh:=fi Tryz.f101 [4,5,7,21,22] qbL []
def qBr:C:=
 (vS [O1 4 (.box 0 26) 0,ON 8 (.nilo 1 1 9) [],vM 9 0] ((vS [O1 11 (.load (some 4)) 4,MV 12 1,O2 13 (.call 75 true) 11 12,MV 10 13] (vS [MV 14 10,vN 15 .neq 14 0] (vT 15 (vV [MV
 16 10,ON 8 (.nilo 1 1 9) [],MV 9 16])))).seq ((vS [MV 17 3,vN 18 .lss 17 0,MV 19 18,vQ 20 19 3,vQ 21 19 1,vO 22 19 .len 21,vP 23 19 (.bin .geq) 20 22,PT 24 19 23] (vT 24 (vV
 [ON 8 (.nilo 1 1 9) [],vM 9 20]))).seq (vV [MV 25 2,MV 26 3,O2 27 (.call 101 true) 25 26,MV 8 27,vM 9 0]))))
theorem qAf:qJ Tryz.prog 52 28 2 [RV.tmp 8,RV.tmp 9] qBr:=fi Tryz.f52 [4,8] qbL []
end
section
open Go Go.Proofs AF HY LN
namespace RC
def qq0(L:List (List Str)):AV:= .sl L.length λi=> [strs (L.getD i [])]
def qqt(L:List Bool):AV:= .sl L.length λi=> [.bool (L.getD i false)]
theorem flag_clsV(L:List (List Str)):(qq0 L).flag=true:=rfl
theorem strip_clsV(L:List (List Str)):(qq0 L).strip=qq0 L:=rfl
theorem flag_bolV(L:List Bool):(qqt L).flag=true:=rfl
theorem strip_bolV(L:List Bool):(qqt L).strip=qqt L:=rfl
section
variable {fz : Nat -> Bool} {h : we} {n : Nat}
theorem rei_clsV(L:List (List Str)):rei fz h (n+1) (qq0 L)=qq0 L:=rfl
theorem rei_bolV(L:List Bool):rei fz h (n+1) (qqt L)=qqt L:=rfl
theorem frz_clsV(L:List (List Str)):frz fz h (n+1) (qq0 L)=qq0 L:=rfl
theorem frz_bolV(L:List Bool):frz fz h (n+1) (qqt L)=qqt L:=rfl
end
attribute [go_sem] flag_clsV strip_clsV flag_bolV strip_bolV rei_clsV rei_bolV frz_clsV frz_bolV
theorem jB{α:Type}{d:α}(L:List α)(P:α->Prop)(hd:P d)(h: ∀i,i<L.length->P (L.getD i d)): ∀i,P (L.getD i d):=by
 intro i
 by_cases hi:i<L.length
 ·exact h i hi
 ·rw[gdqA,List.getElem?_eq_none om];exact hd
theorem qpP{x:Co}(h:qry x=false):qaN x∧x.col.length<=24∧x.sig.length<=36:=by
 unfold qry at h;rw[Bool.or_eq_false_iff,Bool.or_eq_false_iff,Bool.or_eq_false_iff,Bool.or_eq_false_iff,qp,decide_eq_false_iff_not,decide_eq_false_iff_not]at h;obtain⟨h1,h2,h3,h4,h5⟩:=h;unfold gtB at h2;rw[Bool.or_eq_false_iff,qp,Bool.or_eq_false_iff,Bool.or_eq_false_iff,decide_eq_false_iff_not,decide_eq_false_iff_not]at h2;obtain⟨t1,t2,t3,t4⟩:=h2;unfold gnB at h5;rw[Bool.or_eq_false_iff,qp,decide_eq_false_iff_not]at h5;obtain⟨n1,n2⟩:=h5;have hrow: ∀i,i<x.tok.length->(x.tok.getD i []).length<=6∧ ∀j,j<(x.tok.getD i []).length->UF ((x.tok.getD i []).getD j default)=false:=λi hi=>by
  have:=t1 i hi
  unfold qaS at this;rw[Bool.or_eq_false_iff,Bool.or_eq_false_iff,decide_eq_false_iff_not,qp]at this;exact⟨om,this.2.2⟩
 have hd0:qph (default:Tk):=⟨by decide,by decide,by decide,by decide⟩
 refine⟨⟨om,om,?_,om,?_,?_,om,?_⟩,om,om⟩
 ·exact jB x.sig (λs=>s.length<=1000000000) (by decide) λi hi=>by
   have:=of_decide_eq_false (n1 i hi)
   omega
 ·exact jB x.tok (λs=>s.length<=1000000000) (by decide) λi hi=>by have:=(hrow i hi).1;omega
 ·exact jB x.tok (λs=> ∀j,qph (s.getD j default)) (λj=>by simpa using hd0) λi hi=>jB _ qph hd0 λj hj=>by
   have:=(hrow i hi).2 j hj
   unfold UF at this;simp only[Bool.or_eq_false_iff,decide_eq_false_iff_not]at this;exact⟨om,om,om,om⟩
 ·exact jB x.col (λs=>s.length<=1000000000) (by decide) λi hi=>by
   have:=of_decide_eq_false (h1 i hi)
   omega
theorem qpQ{l:List Un}(h:qrz l=false):qdB l∧l.length<=12:=by
 unfold qrz at h;rw[Bool.or_eq_false_iff,qp,decide_eq_false_iff_not]at h;obtain⟨h1,h2⟩:=h;have hu: ∀i,i<l.length->(l.getD i default).rds.length<=6∧ ∀j,j<(l.getD i default).rds.length->((l.getD i default).rds.getD j default).src.length<=8∧((l.getD i default).rds.getD j default).words.length<=8:=λi hi=>by
  have:=h1 i hi
  unfold guB at this;rw[Bool.or_eq_false_iff,decide_eq_false_iff_not,qp]at this;refine⟨om,λj hj=> ?_⟩;have h3:=this.2 j hj;unfold guR at h3;rw[Bool.or_eq_false_iff,decide_eq_false_iff_not]at h3
  have:=(qxB h3.2).1
  exact⟨om,om⟩
 refine⟨⟨om,?_,?_,?_⟩,om⟩
 ·exact jB l (λu=>u.rds.length<=1000000000) (by decide) λi hi=>by have:=(hu i hi).1;omega
 ·exact jB l (λu=> ∀j,(u.rds.getD j default).src.length<=1000000000) (λj=>by simp[show (default:Un).rds= []from rfl,show (default:Rd).src= []from rfl]) λi hi=>jB _ (λr:Rd=>r.src.length<=1000000000) (by decide) λj hj=>by have:=(hu i hi).2 j hj;omega
 ·exact jB l (λu=> ∀j,(u.rds.getD j default).words.length<=1000000000) (λj=>by simp[show (default:Un).rds= []from rfl,show (default:Rd).words= []from rfl]) λi hi=>jB _ (λr:Rd=>r.words.length<=1000000000) (by decide) λj hj=>by have:=(hu i hi).2 j hj;omega
end RC
end
section
namespace AF
open Go
theorem Wk.moveCell{t:wg}{h:we}{i j a w v:Nat}{ty ty':TypeId}{ds cs:wg}{sz off len:Nat}
  (hi:qt i h=some (.mem w ty' ds)) (ha:ds[a]? =some (.osl j v sz off len)) (hj:qt j h=some (.mem v ty cs)) (hne:i≠j):
  Wk t h t (qo i (qo j h (.emp (v+1))) (.mem w ty' (ds.set a (.osl h.length 1 sz off len)))++ [.mem 1 ty cs]):=by
 intro N W σ A H;obtain⟨p1,p2⟩:=H.hr.pushN 1;have hjl:=zD hj;have hil:=zD hi;have hj':qt j (h++ [.emp 0])=some (.mem v ty cs):=by rw[zk hjl];exact hj
 have hg:qt h.length (h++ [AObj.emp 0])=some (.emp 0):=by unfold qt;rw[List.getElem?_append_right (nlr _),Nat.sub_self];rfl
 have hk':qI (h++ [.emp 0]) h.length=true:=by unfold qI;rw[hg]
 obtain⟨σ2,q1,q2,q3⟩:=HR.move (h:=h++ [.emp 0]) p1 hj' hk' om;have e0:qo h.length (qo j (h++ [.emp 0]) (.emp (v+1))) (.mem (qq (qt h.length (h++ [.emp 0]))+1) ty cs)=qo j h (.emp (v+1))++ [.mem 1 ty cs]:=by
  rw[hg];unfold qo;rw[List.set_append_left _ _ hjl,List.set_append_right _ _ (by rw[List.length_set];exact nlr _),List.length_set,Nat.sub_self];rfl
 rw[e0]at q1;rw[hg]at q3;have ee:=p2.trans q2;have hiq:qt i (qo j h (.emp (v+1))++ [.mem 1 ty cs])=some (.mem w ty' ds):=by
  rw[zk (by rw[qK];exact hil),qP (by exact hne)];exact hi
 obtain⟨o,b,arr,o1,o2,o3,o4,o5,o6,o7,o8,o9⟩:=jy q1 (qM hiq);obtain⟨o',b',arr',r1,r2,r3,r4,r5,r6,r7,r8,r9⟩:=jy H.hr (qM hi);obtain⟨o2',s1,s2,s3⟩:=ee.obj i o' r1;rw[o1]at s1;cases s1;have eo:o=o':=s3 (o2.trans r2.symm);subst eo;rw[o4]at r4;cases r4;have earr:arr=arr':=by
  obtain⟨T,fz,_,x1⟩:=o5;obtain⟨T',fz',_,x2⟩:=r5;rw[x1]at x2;cases x2;rfl
 subst earr;have q:=q1.recell (cs':=ds.set a (.osl h.length 1 sz off len)) hiq o1 o4 o5 o6 (by simpa using o7) (λn x hn hx=>o8 n x (by simpa using hn) hx) (λn d x hd hx=>by
  rw[List.getElem?_set]at hd;split at hd
  ·rename_i e;subst e;split at hd
   ·cases hd;exact q3 sz off len x ((r9 a _ x ha hx).ext p2)
   ·cases hd
  ·exact o9 n d x hd hx)
 have e1:qo i (qo j h (.emp (v+1))++ [.mem 1 ty cs]) (.mem w ty' (ds.set a (.osl h.length 1 sz off len)))=qo i (qo j h (.emp (v+1))) (.mem w ty' (ds.set a (.osl h.length 1 sz off len)))++ [.mem 1 ty cs]:=by
  unfold qo;rw[List.set_append_left _ _ (by rw[List.length_set];exact hil)]
 rw[e1]at q;exact⟨σ2,⟨q,H.sz,λn d x hd hx=>(H.tm n d x hd hx).ext ee,TJ ee H.df⟩,ee⟩
end AF
end
section
open Go Go.Proofs AF HY LN
namespace RC
def SJ(base:Nat)(L:List Rd):wg:=(List.range L.length).flatMap λj=> [strs (L.getD j default).words,.osl (base+j) (L.getD j default).src.length 1 0 (L.getD j default).src.length]
def qe7(L:List Rd):we:=L.map λr=> .mem r.src.length 3 (qQ r.src)
theorem qn8(L:List Rd):(qe7 L).length=L.length:=by simp[qe7]
theorem qkm{L:List Rd}{j:Nat}(hj:j<L.length):(qe7 L)[j]? =some (.mem (L.getD j default).src.length 3 (qQ (L.getD j default).src)):=by
 unfold qe7;rw[List.getElem?_map,zG hj,gdqA,zG hj];rfl
theorem qn7(L M:List Rd):qe7 (L++M)=qe7 L++qe7 M:=by simp[qe7]
theorem qn9{L:List Rd}{j:Nat}(r:Rd):(qe7 L).set j (.mem r.src.length 3 (qQ r.src))=qe7 (L.set j r):=by
 unfold qe7;rw[List.map_set]
theorem qbh{α:Type}(f g:Nat->List α): ∀n,(∀i,i<n->f i=g i)->(List.range n).flatMap f=(List.range n).flatMap g:=λn h=>by
 rw[List.flatMap_def,List.flatMap_def];congr 1;exact List.map_congr_left λi hi=>h i (List.mem_range.1 hi)
theorem qkl(base:Nat)(L:List Rd)(r:Rd):SJ base (L++ [r])=SJ base L++ [strs r.words,.osl (base+L.length) r.src.length 1 0 r.src.length]:=by
 unfold SJ;rw[lap,List.length_singleton,List.range_succ,List.flatMap_append];congr 1
 ·refine qbh _ _ _ λi hi=> ?_
  rw[gdqA,List.getElem?_append_left hi,<-gdqA]
 ·simp
theorem qai(base:Nat)(L:List Rd):(SJ base L).length=2*L.length:=by
 unfold SJ;generalize L.length=n;generalize hf:(λj=> [strs (L.getD j default).words,AV.osl (base+j) (L.getD j default).src.length 1 0 (L.getD j default).src.length])=f;have h2: ∀j,(f j).length=2:=λj=>by rw[<-hf];rfl
 induction n with
 |zero=>rfl
 |succ n ih=>rw[List.range_succ,List.flatMap_append,lap,ih];simp[h2];omega
theorem qbi(base:Nat)(L:List Rd){k:Nat}(hk:k<L.length): ∃A B,A.length=2*k∧SJ base L=A++ [strs (L.getD k default).words,.osl (base+k) (L.getD k default).src.length 1 0 (L.getD k default).src.length]++B∧
  ∀s,SJ base (L.set k ⟨(L.getD k default).words,s⟩)=A++ [strs (L.getD k default).words,.osl (base+k) s.length 1 0 s.length]++B:=by
 have e:List.range L.length=List.range k++k::(List.range (L.length-(k+1))).map (λi=>k+1+i):=by
  conv=>lhs;rw[show L.length=k+1+(L.length-(k+1)) by omega,List.range_add,List.range_succ,List.append_assoc]
  rfl
 refine⟨(List.range k).flatMap λj=> [strs (L.getD j default).words,.osl (base+j) (L.getD j default).src.length 1 0 (L.getD j default).src.length],((List.range (L.length-(k+1))).map (λi=>k+1+i)).flatMap λj=> [strs (L.getD j default).words,.osl (base+j) (L.getD j default).src.length 1 0 (L.getD j default).src.length],?_,?_,λs=> ?_⟩
 ·have h2: ∀(f:Nat->wg),(∀j,(f j).length=2)-> ∀n,((List.range n).flatMap f).length=2*n:=λf hf n=>by
   induction n with
   |zero=>rfl
   |succ n ih=>rw[List.range_succ,List.flatMap_append,lap,ih];simp[hf];omega
  exact h2 _ (λ_=>rfl) _
 ·unfold SJ;rw[e,List.flatMap_append,List.flatMap_cons,List.append_assoc]
 ·unfold SJ;rw[List.length_set,e,List.flatMap_append,List.flatMap_cons,List.append_assoc];have g: ∀j,(L.set k ⟨(L.getD k default).words,s⟩).getD j default=if j=k then ⟨(L.getD k default).words,s⟩ else L.getD j default:=λj=>kk hk
  congr 1
  ·refine qbh _ _ _ λi hi=> ?_
   rw[g,ine om]
  ·rw[g,ipo rfl];show _::_::_=_::_::_;congr 2;rw[List.flatMap_def,List.flatMap_def,List.map_map,List.map_map];refine congrArg List.flatten (List.map_congr_left λi _=> ?_);simp only[Function.comp];rw[g,ine om]
theorem qn6{base:Nat}{L:List Rd}{i:Nat}(hi:i<L.length):((SJ base L).drop (i*2)).take 2= [strs (L.getD i default).words,.osl (base+i) (L.getD i default).src.length 1 0 (L.getD i default).src.length]:=by
 obtain⟨A,B,h1,h2,_⟩:=qbi base L hi;rw[h2,show i*2=A.length by omega,List.append_assoc,List.drop_append,Nat.sub_self];simp
theorem qnr{L:List Int}{n:Nat}{g:AV->AV}(hg: ∀x,g (.int .i64 x)= .int .i64 x)(hn:n=L.length):ILe (qfd (some (.mem n 3 (qQ L))) n 1 0 n g) (qG L):=by
 subst hn;rw[slOf_mem,ipo ⟨rfl,by rw[jQ];omega⟩];refine ILe.sl_eq λi hi=> ?_
 simp only[Nat.zero_add,Nat.mul_one];have e:((qQ L).drop i).take 1= [.int .i64 (L.getD i 0)]:=by
  rw[List.drop_eq_getElem_cons (by rw[jQ];exact hi),List.take_succ_cons,List.take_zero];have h:=qjr (C:=L) hi;rw[zG (by rw[jQ];exact hi)]at h;rw[Option.some.inj h]
 rw[e,List.map_cons,List.map_nil,hg]
theorem qkn{base v:Nat}{L:List Rd}{n:Nat}{fz:Nat->Bool}{H:we}{d:Nat}(hn:n=L.length)(hf: ∀j,j<L.length->fz (base+j)=true)(hj: ∀j,j<L.length->qt (base+j) H=some (.mem (L.getD j default).src.length 3 (qQ (L.getD j default).src))):
  VLe (qfd (some (ze v 97 (SJ base L))) v 2 0 n (rei fz H (d+2))) (jq L):=by
 subst hn
 by_cases h0:L= []
 ·subst h0;show VLe (qfd (some (.emp v)) v 2 0 0 _) _;rw[slOf_emp,ipo rfl];exact qZ
 ·have e0:ze v 97 (SJ base L)= .mem v 97 (SJ base L):=RZ (λe=>h0 (by
   have:=qai base L
   rw[e]at this
   exact List.eq_nil_of_length_eq_zero (by simp at this;omega)))
  rw[e0,slOf_mem,ipo ⟨rfl,by rw[qai];omega⟩];refine VLe.sl (λi hi=> ?_);simp only[Nat.zero_add];rw[qn6 hi];refine⟨ILe.refl _,?_,trivial⟩;show ILe (rei fz H (d+1+1) (.osl (base+i) _ 1 0 _)) _;rw[rei_osl,ipo (hf i hi),hj i hi];exact qnr (λ_=>rfl) rfl
theorem qq7{A B:wg}{a b c:AV}{n:Nat}(hn:n=A.length+1):List.take n (A++ [a,b]++B)++ [c]++List.drop (n+1) (A++ [a,b]++B)=A++ [a,c]++B:=by
 have e1:A++ [a,b]++B=(A++ [a])++(b::B):=by simp
 have e2:A++ [a,b]++B=(A++ [a]++ [b])++B:=by simp
 have h1:List.take n (A++ [a,b]++B)=A++ [a]:=by rw[e1];exact List.take_left' (by rw[lap,List.length_singleton,hn])
 have h2:List.drop (n+1) (A++ [a,b]++B)=B:=by rw[e2];exact List.drop_left' (by rw[lap,lap,List.length_singleton,List.length_singleton,hn])
 rw[h1,h2];simp
theorem qhi{hi:Int}: ∀ {S:List Int} {lo:Int},S.Pairwise (· < ·)->(∀x∈S,lo<=x∧x<hi)->S.length<=(hi-lo).toNat:=by
 intro S
 induction S with
 |nil=>intro lo _ _;exact nzl _
 |cons a S ih=>
  intro lo h1 h2;obtain⟨p1,p2⟩:=List.pairwise_cons.1 h1;have ha:=h2 a List.mem_cons_self
  have:=ih (lo:=a+1) p2 λx hx=>⟨by have:=p1 x hx;omega,(h2 x (List.mem_cons_of_mem _ hx)).2⟩
  rw[lco];omega
theorem qAA{h M:we}{a0 a1 a2 a3 a4 a5 a6 a7 a8:AObj}:(h++a0::a1::a2::a3::a4::a5::a6::a7::a8::M).length=h.length+9+M.length:=by
 simp only[lap,lco];omega
theorem qcU{h M:we}{a0 a1 a2 a3 a4 a5 a6 a7 a8:AObj}{j:Nat}:qt (h.length+9+j) (h++a0::a1::a2::a3::a4::a5::a6::a7::a8::M)=M[j]? :=by
 unfold qt;rw[List.getElem?_append_right om,show h.length+9+j-h.length=j+9 by omega];rfl
theorem qyu{h M:we}{a0 a1 a2 a3 a4 a5 a6 a7 a8 o:AObj}{j:Nat}:qo (h.length+9+j) (h++a0::a1::a2::a3::a4::a5::a6::a7::a8::M) o=h++a0::a1::a2::a3::a4::a5::a6::a7::a8::M.set j o:=by
 unfold qo;rw[List.set_append_right _ _ om,show h.length+9+j-h.length=j+9 by omega];rfl
theorem qBK(x:Co)(f t:Nat)(h:we)(ho:CoOk x)(ht:t<=x.col.length)(hn:x.col.length<=1000000000):ACalls Tryz.prog 90 [.agg (coC x),.int .i64 (f:Int),.int .i64 (t:Int)] h (jq (qbj x f t)) h:=by
 have zl: ∀g,valL g .len [strs x.sig]= .int .i64 x.sig.length:=λ_=>rfl
 have zo: ∀g,okL g .len [strs x.sig]=True:=λ_=>eqt trivial
 refine acO qAm ?_;simp (disch:=omega) only[qBx,coC,zl,zo,go_sem];refine qr (T:=λi:Nat×Nat×AObj×AObj×AObj×AObj=>qX 48 [(1,.int .i64 (f:Int)),(2,.int .i64 (t:Int)),(3,.op h.length 1 0),(7,.osl (h.length+2) i.2.1 2 0 (UR x f (t-f) i.1).length),(13,.int .i64 x.sig.length),(14,.int .i64 i.1)])
  (H:=λi=>h++ .mem 1 26 (coC x):: .emp 1::ze i.2.1 97 (SJ (h.length+9) (UR x f (t-f) i.1))::i.2.2.1::i.2.2.2.1::i.2.2.2.2.1:: .emp 0::i.2.2.2.2.2:: .emp 0::qe7 (UR x f (t-f) i.1))
  (inv:=λi=>i.1<=x.sig.length∧qI [i.2.2.1] 0=true∧qI [i.2.2.2.1] 0=true∧qI [i.2.2.2.2.1] 0=true∧qI [i.2.2.2.2.2] 0=true) (m:=λi=>x.sig.length-i.1) (0,1,.emp 0,.emp 0,.emp 0,.emp 0) ⟨nzl _,rfl,rfl,rfl,rfl⟩ (Wk.temps ?_) ?_
 ·(simp only[UR,lnl,go_sem,qg,qc,qa,qf];try exact wa)
 rintro⟨s,v,O3,O4,O5,O7⟩ ⟨i1,j3,j4,j5,j7⟩ K hK;simp only at i1 j3 j4 j5 j7 hK;have j3': ∀m,qI (O3::m) 0=true:=λ_=>j3
 have j4': ∀m,qI (O4::m) 0=true:=λ_=>j4
 have j5': ∀m,qI (O5::m) 0=true:=λ_=>j5
 have j7': ∀m,qI (O7::m) 0=true:=λ_=>j7
 have hst:UR x f (t-f) (s+1)=qdx (UR x f (t-f) s) (rdG x s f (t-f)) s:=rfl;have hln:=qe8 x f (t-f) s;have hsg:=ho.sg;obtain⟨L,hL⟩:=wc (UR x f (t-f) s)
 rw[<-hL]at hst hln;have eL:=hL.symm
 by_cases hs:s<x.sig.length
 ·have k1:((s:Int)<x.sig.length)=True:=wh;have c21:=λh=>rdP x f t s h ho ht hs hn
  obtain⟨w,hw⟩:=wc (rdG x s f (t-f))
  rw[<-hw]at hst;simp only[<-hw]at c21;unfold coC at c21;simp (disch:=omega) only[coC,k1,eL,go_sem]
  repeat' first|(refine cA (c21 _) flk ?_;simp (disch:=omega) only[j3',j4',go_sem])
  have hwl:w.length<=1000000000:=by have:=qbX x s f (t-f);rw[<-hw]at this;omega
  have hRd:=qbY x f (t-f) s;rw[eL]at hRd;have hwL: ∀j,(L.getD j default).words.length<=1000000000:=jB L (λr=>r.words.length<=1000000000) (by decide) λj hj=>by
   have h1:=hRd.nn j hj;obtain⟨y,ys,e⟩:=List.exists_cons_of_ne_nil h1;have h2:=hRd.wd j hj y (by rw[e];exact List.mem_cons_self);rw[h2]
   have:=qbX x y.toNat f (t-f)
   omega
  have hob:= @qkm L;refine cA (r:= .int .i64 (qe6 L w)) ?c (by exact flk) ?_
  case c=>
   refine ACalls.borrow ((fdP L ⟨w,[(s:Int)]⟩ [] om hwl hwL).le ?v (qi)) rfl;simp only[List.map_cons,List.map_nil,go_sem];refine⟨qkn rfl (λ_ _=>rfl) (λj hj=>by rw[qcU];exact hob hj),VLe.agg ⟨qi,VLe.sl_eq rfl (λi hi=> ?_),trivial⟩,qi,trivial⟩;obtain rfl:i=0:=by simpa using hi
   rfl
  have eKl:=qai (h.length+9) L;rcases Uu L w with⟨k,b1,b2,b3⟩|⟨b1,b2⟩
  ·have q1:(qe6 L w<0)=False:=wi;have hst2:UR x f (t-f) (s+1)=L.set k ⟨w,(L.getD k default).src++ [(s:Int)]⟩:=by
    rw[hst];unfold qdx;rw[b3,ine om,itn]
   obtain⟨A,B,a1,a2,a3⟩:=qbi (h.length+9) L b1;have a3:=a3 ((L.getD k default).src++ [(s:Int)]);have hne:(SJ (h.length+9) L≠ [])=True:=eqt λe=>by rw[e]at eKl;simp at eKl;omega
   have hob:=hob b1;rw[b2]at a2 a3;have hos:= @qn9 L k ⟨w,(L.getD k default).src++ [(s:Int)]⟩;rw[<-hst2]at hos a3;dsimp only at hos;obtain⟨S,hS⟩:=wc ((L.getD k default).src)
   rw[<-hS]at a2 a3 hob hos;rw[lap,List.length_singleton]at a3 hos;rw[qjq,show qQ [(s:Int)]= [AV.int .i64 (s:Int)]from rfl]at hos;have gg:(SJ (h.length+9) L)[k*2+1]? =some (.osl (h.length+9+k) S.length 1 0 S.length):=by
    rw[a2,List.append_assoc,List.getElem?_append_right om,show k*2+1-A.length=1 by omega];rfl
   have gs:List.take (k*2+1) (SJ (h.length+9) L)++ [.osl (h.length+9+k) (S.length+1) 1 0 (S.length+1)]++List.drop (k*2+1+1) (SJ (h.length+9) L)=SJ (h.length+9) (UR x f (t-f) (s+1)):=by
    rw[a2,a3];exact qq7 om
   have eI:=jQ S;have hSl:S.length<=1000:=by
    have:=(qbZ x f (t-f) s).src (L.getD k default) (by rw[eL,gdqA,zG b1];exact List.getElem_mem b1)
    have:=qhi (hi:=(s:Int)) (lo:=0) this.1 this.2
    rw[<-hS]at this;omega
   have eown:ze v 97 (SJ (h.length+9) L)= .mem v 97 (SJ (h.length+9) L):=RZ (of_eq_true hne);have el2:(UR x f (t-f) (s+1)).length=L.length:=by rw[hst2,List.length_set]
   have eown2:ze v 97 (SJ (h.length+9) (UR x f (t-f) (s+1)))= .mem v 97 (SJ (h.length+9) (UR x f (t-f) (s+1))):=RZ λe=>by
    have:=qai (h.length+9) (UR x f (t-f) (s+1))
    rw[e,el2]at this;simp at this;omega
   have eTi:List.take S.length (qQ S)=qQ S:=ltl om;have kL:((k:Int)<L.length)=True:=wh;have k0:(0<=(k:Int))=True:=wh;rw[eown];simp (disch:=omega) only[b3,j7',gg,eKl,kL,k0,Option.getD_some,Option.isSome_some,qcU,qyu,hob,eTi,Nat.mul_one,itn,go_sem]
   repeat' first|(with_reducible first|intro _|apply aiA)|exact clz|fail
   all_goals try (simp only[jl,zO,qcU,hob,SY,ql,if_true,Option.getD_some,eI,beq_self_eq_true];done)
   all_goals try (simp only[bne_iff_ne];omega)
   all_goals try (simp only[zO,qcU,hob,ql,if_true,Option.getD_some,eI];exact nlr _)
   rw[gs];have eD:(AV.int .i64 (s:Int)::List.drop 1 (zS [i6 0] 1))= [AV.int .i64 (s:Int)]:=rfl;simp only[eD];rw[hos];refine hK _ _ (s+1,v,.mem (qq (some O3)+1) 3 [.int .i64 (s:Int)],.mem (qq (some O4)+1) 97 [strs w,.osl (h.length+3) (qq (some O3)+1) 1 0 1],O5,.mem (qq (some O7)+1) 3 [.int .i64 (s:Int)]) ⟨hs,rfl,rfl,j5,rfl⟩ (by simp only;omega) ?_;simp only[eown2,el2,coC];refine Wk.temps ?_
   (simp only[go_sem,qg,qc,qa,qf];try (repeat' first|(with_reducible apply aiA)|(apply qh;omega)|(apply qd;rfl)|exact qi))
  ·have q1:(qe6 L w<0)=True:=eqt b2;have hst2:UR x f (t-f) (s+1)=L++ [⟨w,[(s:Int)]⟩]:=by
    rw[hst];unfold qdx;rw[ipo b2]
   have eTk:List.take (L.length*2) (SJ (h.length+9) L)=SJ (h.length+9) L:=ltl om;simp (disch:=omega) only[q1,j5',eTk,eKl,Nat.mul_one,go_sem]
   repeat' first|with_reducible apply aiA|exact clz|fail
   have el2:(UR x f (t-f) (s+1)).length=L.length+1:=by rw[hst2,lap];rfl
   have eo:qe7 (UR x f (t-f) (s+1))=qe7 L++ [.mem 1 3 [.int .i64 (s:Int)]]:=by rw[hst2,qn7];rfl
   have ek:SJ (h.length+9) (UR x f (t-f) (s+1))=SJ (h.length+9) L++ [strs w,.osl (h.length+9+L.length) 1 1 0 1]:=by rw[hst2,qkl];rfl
   have eown:ze (v+1) 97 (SJ (h.length+9) L++ [strs w,.osl (h.length+3) (qq (some O3)+1) 1 0 1])= .mem (v+1) 97 (SJ (h.length+9) L++ [strs w,.osl (h.length+3) (qq (some O3)+1) 1 0 1]):=RZ (by simp);have eown2:ze (v+1) 97 (SJ (h.length+9) L++ [strs w,.osl (h.length+9+L.length) 1 1 0 1])= .mem (v+1) 97 (SJ (h.length+9) L++ [strs w,.osl (h.length+9+L.length) 1 1 0 1]):=RZ (by simp);have eset:(SJ (h.length+9) L++ [strs w,AV.osl (h.length+3) (qq (some O3)+1) 1 0 1]).set (L.length*2+1) (.osl (h.length+9+L.length) 1 1 0 1)=SJ (h.length+9) L++ [strs w,.osl (h.length+9+L.length) 1 1 0 1]:=by
    rw[List.set_append_right _ _ om,eKl,show L.length*2+1-2*L.length=1 by omega];rfl
   rw[eown];refine hK _ _ (s+1,v+1,.emp (qq (some O3)+1+1),.mem (qq (some O4)+1) 97 [strs w,.osl (h.length+3) (qq (some O3)+1) 1 0 1],.mem (qq (some O5)+1) 97 [strs w,.osl (h.length+3) (qq (some O3)+1) 1 0 1],O7) ⟨hs,rfl,rfl,rfl,j7⟩ (by simp only;omega)
    (Wk.trans (Wk.moveCell (i:=h.length+2) (j:=h.length+3) (a:=L.length*2+1) (w:=v+1) (v:=qq (some O3)+1) (ty:=3) (ty':=97) (ds:=SJ (h.length+9) L++ [strs w,.osl (h.length+3) (qq (some O3)+1) 1 0 1]) (cs:= [.int .i64 (s:Int)]) (sz:=1) (off:=0) (len:=1) ?m1 ?m2 ?m3 om) ?m4)
   case m1=>simp only[go_sem]
   case m2=>
    rw[List.getElem?_append_right om,show L.length*2+1-(SJ (h.length+9) L).length=1 by omega];rfl
   case m3=>simp only[go_sem];rfl
   case m4=>
    have eD:(AV.int .i64 (s:Int)::List.drop 1 (zS [i6 0] 1))= [AV.int .i64 (s:Int)]:=rfl;have eD2: ∀c:AV,(strs w::c::List.drop 2 (zS [AV.nl,AV.nl] 1))= [strs w,c]:=λ_=>rfl
    simp only[eo,ek,eown2,el2,coC,eD,eD2,qAA,qn8,go_sem,eset,List.append_assoc,lca];refine Wk.temps ?_
    (simp only[go_sem,qg,qc,qa,qf];try (repeat' first|(with_reducible apply aiA)|(apply qh;omega)|(apply qd;rfl)|exact qi))
 ·have k1:((s:Int)<x.sig.length)=False:=wi;obtain rfl:s=x.sig.length:=by omega
  have hF:qbj x f t=L:=by rw[hL];rfl
  rw[hF];simp (disch:=omega) only[k1,eL,go_sem]
  repeat' first|(apply qb;exact rvk;simp only[go_sem])
  exact qkn rfl (λj _=>dqt om) (λj hj=>by rw[qcU];exact qkm hj)
theorem qB3(l:List Un)(f t:Nat)(k v k2 v2:Nat)(h:we)(hk:qt k h=some (.mem v 3 [.int .i64 (f:Int)]))(hk2:qt k2 h=some (.mem v2 3 [.int .i64 (t:Int)]))(hn:l.length<=1000000000):
  ACalls Tryz.prog 33 [zM l,.fn (.func 178) [] [.op k v 0,.op k2 v2 0]] h (.bool (rnB l (f,t))) h:=by
 have hc:=qM hk;have hc2:=qM hk2;unfold zM rnB;refine qtQ qAb ⟨rfl,rfl⟩ ⟨rfl,rfl⟩ (qcV qxg l.length (λj=>unC (l.getD j default)) (λj=> .agg (unC (l.getD j default))) _ [] [.op k v 0,.op k2 v2 0] _ h (λi _=>⟨rfl,by simp[kc,unC],rfl,rfl,rfl⟩) (λi _=> ?_) om);refine ACalls.borrow ?_ rfl;have e:([AV.agg (unC (l.getD i default))]++ [AV.op k v 0,AV.op k2 v2 0]).map (rei (λ_=>true) h 8)= [.agg (unC (l.getD i default)),.ip [.int .i64 (f:Int)],.ip [.int .i64 (t:Int)]]:=by
  simp only[lca,lna,List.map_cons,List.map_nil,rei_op,if_true,hc,hc2,ipOf_some,List.drop_zero,rei_agg];rfl
 rw[lna,e];exact qCK _ _ _ _
theorem qmb(l:List Un)(i:Nat):beH l (i+1)=(l.getD i default).to:=by unfold beH;rw[ine om,Nat.add_sub_cancel]
theorem qrS(u:Un)(n v:Nat)(ty:TypeId):lowO n (.mem v ty (unC u)):=by
 intro c hc;simp only[unC,List.mem_cons,List.not_mem_nil,or_false]at hc;rcases hc with rfl|rfl|rfl<;>rfl
theorem qrR(x:Co)(n v:Nat)(ty:TypeId):lowO n (.mem v ty (coC x)):=by
 intro c hc;simp only[coC,List.mem_cons,List.not_mem_nil,or_false]at hc;rcases hc with rfl|rfl|rfl|rfl<;>rfl
theorem qku(x:Co): ∀a∈rnX x,a.length=2:=by
 intro a ha;unfold rnX at ha;obtain⟨_,_,rfl⟩:=List.mem_map.1 ha;rfl
theorem qd0(x:Co):(rnX x).length=(qbr (cmB x) x.col.length).length:=by simp[rnX]
theorem qkt{x:Co}{i:Nat}(hi:i<(rnX x).length):(rnX x)[i]= [.int .i64 (((qbr (cmB x) x.col.length).getD i (0,0)).1:Int),.int .i64 (((qbr (cmB x) x.col.length).getD i (0,0)).2:Int)]:=by
 have h2:i<(qbr (cmB x) x.col.length).length:=by rw[<-qd0];exact hi
 simp only[rnX,List.getElem_map];rw[gdqA,zG h2];rfl
theorem qsw(x:Co)(f d:Nat)(hd:d<=1000000000)(s:Nat)(hs:s<=1000000000):qqf (UR x f d s):=by
 have hI:=qbZ x f d s;have hH:=qbY x f d s;have hl:=qe8 x f d s;refine⟨om,?_,?_⟩
 ·exact jB _ (λr:Rd=>r.src.length<=1000000000) (by decide) λj hj=>by
   have:=hI.src ((UR x f d s).getD j default) (by rw[gdqA,zG hj];exact List.getElem_mem hj)
   have:=qhi (hi:=(s:Int)) (lo:=0) this.1 this.2
   omega
 ·exact jB _ (λr:Rd=>r.words.length<=1000000000) (by decide) λj hj=>by
   have h1:=hH.nn j hj;obtain⟨y,ys,e⟩:=List.exists_cons_of_ne_nil h1;have h2:=hH.wd j hj y (by rw[e];exact List.mem_cons_self);rw[h2]
   have:=qbX x y.toNat f d
   omega
theorem qCL(x:Co)(l:List Un)(h:we)(ho:CoOk x)(hn:x.col.length<=1000000000)(hu:qdB l):ACalls Tryz.prog 127 [.agg (coC x),zM l] h (.bool (rgB x l)) h:=by
 have hsg:=ho.sg;have hl:=hu.n;obtain⟨R,hR⟩:=wc (rgB x l)
 rw[<-hR];unfold rgB at hR;refine acO qvW ?_;simp (disch:=omega) only[qul,coC,zM,go_sem]
 repeat' first|with_reducible apply aiA|exact clz|fail
 refine qr (T:=λi:Nat×AObj=>qX 63 [(2,.op h.length 1 0),(3,.op (h.length+1) 1 0),(4,.op (h.length+2) 1 0),(5,.int .i64 (beH l i.1)),(10,zM l),(11,.int .i64 l.length),(12,.int .i64 i.1)])
  (H:=λi=>h++ [.mem 1 26 (coC x),.mem 1 28 [zM l],.mem 1 4 [.bool false],i.2,.emp 0,.emp 0])
  (inv:=λi=>i.1<=l.length∧qI [i.2] 0=true∧(∀n,lowO n i.2)∧ ∀j,j<i.1->unB x (beH l j) (l.getD j default)=true) (m:=λi=>l.length-i.1) (0,.emp 0) ⟨nzl _,rfl,λ_=>trivial,λj hj=>absurd hj (nnz j)⟩ (Wk.temps ?_) ?_
 ·(simp only[zM,beH,go_sem,qg,qc,qa,qf];try exact wa)
 rintro⟨i,O⟩ ⟨i1,i2,il,i3⟩ K hK;simp only at i1 i2 il i3 hK;have i2': ∀m,qI (O::m) 0=true:=λ_=>i2
 by_cases hi:i<l.length
 ·have k1:((i:Int)<l.length)=True:=wh;have hno:unB x (beH l i) (l.getD i default)=false->R=false:=λhx=>by
   rw[hR];unfold qal;rw[qN.2 ⟨i,hi,by rw[hx];rfl⟩];rfl
  have hS:unB x (beH l i) (l.getD i default)=true-> ∀j,j<i+1->unB x (beH l j) (l.getD j default)=true:=λhx j hj=>by
   by_cases e:j=i
   ·subst e;exact hx
   ·exact i3 j om
  have hbs:=qmb l i;have zrd:qqf (l.getD i default).rds:=⟨hu.rd i,hu.sr i,hu.wd i⟩
  obtain⟨u,hux⟩:=wc (l.getD i default)
  have eu:=hux.symm;rw[eu]at hno hS hbs zrd;obtain⟨b,hb⟩:=wc (beH l i)
  have eb:=hb.symm;rw[eb]at hno hS;have hB:unB x b u= !(decide (u.frm<=b)||(decide (u.frm<0)||(decide (u.to<=u.frm)||(decide ((x.col.length:Int)<u.to)|| !decide (u.rds=qbj x u.frm.toNat u.to.toNat))))):=rfl
  by_cases g1:u.frm<=b
  ·have q1:(u.frm<=b)=True:=eqt g1;rw[hno (by rw[hB,dqt g1];rfl)];simp (disch:=omega) only[zM,unC,coC,qw,jq,k1,eu,eb,i2',q1,go_sem]
   repeat' first|(refine qj ( jq []) ?_;simp (disch:=omega) only[jq,go_sem])|exact v7|with_reducible apply aiA|exact clz|fail
  have q1:(u.frm<=b)=False:=eqf g1
  by_cases g2:u.frm<0
  ·have q2:(u.frm<0)=True:=eqt g2;rw[hno (by rw[hB,dqt g2];simp)];simp (disch:=omega) only[zM,unC,coC,qw,jq,k1,eu,eb,i2',q1,q2,go_sem]
   repeat' first|(refine qj ( jq []) ?_;simp (disch:=omega) only[jq,go_sem])|exact v7|with_reducible apply aiA|exact clz|fail
  have q2:(u.frm<0)=False:=eqf g2
  by_cases g3:u.to<=u.frm
  ·have q3:(u.to<=u.frm)=True:=eqt g3;rw[hno (by rw[hB,dqt g3];simp)];simp (disch:=omega) only[zM,unC,coC,qw,jq,k1,eu,eb,i2',q1,q2,q3,go_sem]
   repeat' first|(refine qj ( jq []) ?_;simp (disch:=omega) only[jq,go_sem])|exact v7|with_reducible apply aiA|exact clz|fail
  have q3:(u.to<=u.frm)=False:=eqf g3
  by_cases g4:(x.col.length:Int)<u.to
  ·have q4:((x.col.length:Int)<u.to)=True:=eqt g4;rw[hno (by rw[hB,dqt g4];simp)];simp (disch:=omega) only[zM,unC,coC,qw,jq,k1,eu,eb,i2',q1,q2,q3,q4,go_sem]
   repeat' first|(refine qj ( jq []) ?_;simp (disch:=omega) only[jq,go_sem])|exact v7|with_reducible apply aiA|exact clz|fail
  have q4:((x.col.length:Int)<u.to)=False:=eqf g4;obtain⟨f,hf⟩: ∃f:Nat,u.frm=(f:Int):=⟨u.frm.toNat,om⟩
  obtain⟨t,ht⟩: ∃t:Nat,u.to=(t:Int):=⟨u.to.toNat,om⟩
  have c48:=λh=>qBK x f t h ho om hn
  have zF:qqf (qbj x f t):=qsw x f (t-f) om x.sig.length om;have c49:=λh=>qCS u.rds (qbj x f t) h zrd zF
  have eft:qbj x u.frm.toNat u.to.toNat=qbj x f t:=by rw[hf,ht,itn,itn]
  rw[dqf g1,dqf g2,dqf g3,dqf g4,eft]at hB;obtain⟨F,hF⟩:=wc (qbj x f t)
  rw[<-hF]at hB;simp only[<-hF]at c48 c49;obtain⟨c,hc⟩:=wc (decide (u.rds=F))
  rw[<-hc]at hB;simp only[<-hc]at c49;rw[hf]at q1 q2 q3;rw[ht]at q3 q4;unfold coC qw at c48;unfold jq at c48 c49;cases c with
  |false=>
   rw[hno hB];simp (disch:=omega) only[zM,unC,coC,qw,jq,k1,eu,eb,i2',q1,q2,q3,q4,hf,ht,go_sem]
   repeat' first|((first|refine cG (λe=>c48 _) ?_ ?_|refine cG (λe=>c49 _) ?_ ?_);exact flk;simp (disch:=omega) only[go_sem])|exact v7|with_reducible apply aiA|exact clz|fail
  |true=>
   simp (disch:=omega) only[zM,unC,coC,qw,jq,k1,eu,eb,i2',q1,q2,q3,q4,hf,ht,go_sem]
   repeat' first|((first|refine cG (λe=>c48 _) ?_ ?_|refine cG (λe=>c49 _) ?_ ?_);exact flk;simp (disch:=omega) only[go_sem])|with_reducible apply aiA|exact clz|fail
   refine hK _ _ (i+1,.mem (qq (some O)+1) 64 (unC u)) ⟨hi,rfl,λn=>qrS u n _ _,hS hB⟩ (by simp only;omega) ?_;simp only[hbs,ht,unC,hf];refine Wk.temps ?_
   (simp only[zM,go_sem,qg,qc,qa,qf];try (repeat' first|(with_reducible apply aiA)|(apply qh;omega)|(apply qd;rfl)|exact qi))
 have k1:((i:Int)<l.length)=False:=wi;obtain rfl:i=l.length:=by omega
 have hun:qal x l=true:=by
  unfold qal;rw[qp.2 λj hj=>by rw[i3 j hj];rfl];rfl
 rw[hun,Bool.true_and]at hR;have hcv:=qrb hun;clear hK;have c56:=λh=>qBL x h
 unfold coC qw at c56;simp (disch:=omega) only[coC,qw,k1,go_sem]
 repeat' first|(refine cA (c56 _) flk ?_;simp (disch:=omega) only[go_sem])
 obtain⟨rs,hrs⟩:=wc (qbr (cmB x) x.col.length)
 have hrl:=qd0 x;have hrg:=λi hi=>qkt (x:=x) (i:=i) hi
 rw[<-hrs]at hrl hcv;simp only[<-hrs]at hrg;refine zg (xs:=rnX x) (itR x ho hn) (qku x)
  (S:=λi hh=>(∃O8 O9,qI [O8] 0=true∧qI [O9] 0=true∧(∀n,lowO n O8)∧(∀n,lowO n O9)∧hh=h++ [.mem 1 26 (coC x),.mem 1 28 [zM l],.mem 1 4 [.bool false],O,O8,O9])∧ ∀j,j<i->rnB l (rs.getD j (0,0))=true)
  (E:=λs hh=>s= .ret∧R=false∧ ∃O8 O9,(∀n,lowO n O8)∧(∀n,lowO n O9)∧hh=h++ [.mem 1 26 (coC x),.mem 1 28 [zM l],.mem 1 4 [.bool false],O,O8,O9]) ?_ ?_ ?_ ?_ ?_ ?_ ?_
 ·rintro i hh ⟨⟨O8,O9,_,_,l8,l9,rfl⟩,_⟩;refine LowI.app rfl (λo ho=> ?_);simp only[List.mem_cons,List.not_mem_nil,or_false]at ho;rcases ho with rfl|rfl|rfl|rfl|rfl|rfl
  ·left;simp[coC,qw]
  ·left;simp
  ·left;simp
  ·left;simp
  ·right;exact⟨l8 _,l8 _⟩
  ·right;exact⟨l9 _,l9 _⟩
 ·rintro s hh ⟨_,_,O8,O9,l8,l9,rfl⟩;refine LowI.app rfl (λo ho=> ?_);simp only[List.mem_cons,List.not_mem_nil,or_false]at ho;rcases ho with rfl|rfl|rfl|rfl|rfl|rfl
  ·left;simp[coC,qw]
  ·left;simp
  ·left;simp
  ·left;simp
  ·right;exact⟨l8 _,l8 _⟩
  ·right;exact⟨l9 _,l9 _⟩
 ·exact⟨⟨.emp 0,.emp 0,rfl,rfl,λ_=>trivial,λ_=>trivial,rfl⟩,λj hj=>absurd hj (nnz j)⟩
 ·have lu: ∀n,qR n (zM l)=true:=λ_=>rfl
  have lt: ∀n,qR n (qm x.tok)=true:=λ_=>rfl
  simp[qR,qR.lowVs,lu,lt,qeX]
  try omega
 ·rintro i hh tl LI TS hi ⟨⟨O8,O9,s8,s9,l8,l9,rfl⟩,hj⟩ hlen K K2 hK hN hR' hX;rw[hrg i hi];rw[hrl]at hi;obtain⟨⟨f,t⟩,hr⟩: ∃r,r=rs.getD i (0,0):=⟨_,rfl⟩
  have er:=hr.symm;rw[er];have s8': ∀m,qI (O8::m) 0=true:=λ_=>s8
  have s9': ∀m,qI (O9::m) 0=true:=λ_=>s9
  simp only[kr];simp (disch:=omega) only[List.append_assoc,coC,s8',s9',go_sem];refine hK _ _ (h++ [.mem 1 26 (coC x),.mem 1 28 [zM l],.mem 1 4 [.bool false],O,.mem (qq (some O8)+1) 3 [.int .i64 (f:Int)],.mem (qq (some O9)+1) 3 [.int .i64 (t:Int)]]) (by simp[coC]) (by simp) ?_;simp (disch:=omega) only[List.append_assoc,go_sem]
  repeat' first|with_reducible apply aiA|exact clz|fail
  refine cA (qB3 l f t (h.length+4) _ (h.length+5) _ _ ?ka ?kb hl) (by exact flk) ?_
  case ka=>simp only[go_sem]
  case kb=>simp only[go_sem]
  have l8': ∀n,lowO n (.mem (qq (some O8)+1) 3 [.int .i64 (f:Int)]):=λn c hc=>by simp at hc;subst hc;rfl
  have l9': ∀n,lowO n (.mem (qq (some O9)+1) 3 [.int .i64 (t:Int)]):=λn c hc=>by simp at hc;subst hc;rfl
  cases hb:rnB l (f,t)with
  |true=>
   simp (disch:=omega) only[go_sem];refine hN _ _ (h++ [.mem 1 26 (coC x),.mem 1 28 [zM l],.mem 1 4 [.bool false],O,.mem (qq (some O8)+1) 3 [.int .i64 (f:Int)],.mem (qq (some O9)+1) 3 [.int .i64 (t:Int)]]) (by simp[coC]) (by simp) ⟨⟨_,_,rfl,rfl,l8',l9',rfl⟩,λj hj'=> ?_⟩
   by_cases e:j=i
   ·subst e;rw[er];exact hb
   ·exact hj j om
  |false=>
   have hRf:R=false:=by
    rw[hR];cases hc:cvA x l with
    |false=>rfl
    |true=>
     have h2:=List.all_eq_true.1 (hcv.2 hc) (f,t) (by rw[hr,gdqA,zG hi];exact List.getElem_mem hi);rw[hb]at h2;cases h2
   simp (disch:=omega) only[go_sem];refine hR' _ _ (h++ [.mem 1 26 (coC x),.mem 1 28 [zM l],.mem 1 4 [.bool false],O,.mem (qq (some O8)+1) 3 [.int .i64 (f:Int)],.mem (qq (some O9)+1) 3 [.int .i64 (t:Int)]]) (by simp[coC]) (by simp) ⟨rfl,hRf,_,_,l8',l9',rfl⟩
 ·rintro hh ⟨⟨O8,O9,s8,s9,l8,l9,rfl⟩,hj⟩;have hRt:R=true:=by
   rw[hR];refine hcv.1 (List.all_eq_true.2 λr hr=> ?_);obtain⟨j,hj1,rfl⟩:=List.getElem_of_mem hr
   have:=hj j (by rw[hrl];exact hj1)
   rw[gdqA,zG hj1]at this;exact this
  rw[hRt];simp (disch:=omega) only[go_sem]
  repeat' first|exact v7|fail
 ·rintro e hh ⟨rfl,hRf,O8,O9,l8,l9,rfl⟩;rw[hRf];simp (disch:=omega) only[go_sem]
  repeat' first|exact v7|fail
theorem vaP(x:Co)(l:List Un)(h:we)(hz:qaN x)(hu:qdB l)(hp:kJ SG h):ACalls Tryz.prog 69 [.agg (coC x),zM l] h (.int .i64 (vaE x l)) h:=by
 have c1:=λl'=>coP x (h++l') hz (hp.app l')
 unfold vaE
 by_cases g:coE x=0
 case neg=>
  have k1:(coE x=0)=False:=eqf g;rw[ipo g];obtain⟨e,he⟩:=wc (coE x)
  rw[<-he]at c1 k1;unfold coC at c1;refine acO qxc ?_;simp (disch:=omega) only[qzC,coC,go_sem]
  repeat' first|(refine cA (c1 _) flk ?_;simp (disch:=omega) only[k1,go_sem])|exact v7|fail
 rw[ine (λhc=>hc g)];have c2:=λh=>qCL x l h (UH g) hz.cl hu
 rw[g]at c1;unfold coC at c1 c2;cases g2:rgB x l<;>rw[g2]at c2
 all_goals
  refine acO qxc ?_;simp (disch:=omega) only[qzC,coC,go_sem]
  repeat' first|((first|refine cA (c1 _) ?_ ?_|refine cA (c2 _) ?_ ?_);exact flk;simp (disch:=omega) only[go_sem])|exact v7|fail
end RC
end
