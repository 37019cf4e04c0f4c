import Derived.Test.YtgoandblgcjleaaGreatDoorK14
import Derived.Test.YtgoandblgcjleaaGreatDoorK3
import Derived.Test.YtgoandblgcjleaaGreatDoorK5
import Derived.Test.YtgoandblgcjleaaGreatDoorK8
import Derived.Test.YtgoandblgcjleaaGreatDoorProg
import Derived.Test.YtgoandblgcjleaaGreatDoorK12
import Derived.Test.YtgoandblgcjleaaGreatDoorK13
import Derived.Test.YtgoandblgcjleaaGreatDoorK7
import Derived.Test.YtgoandblgcjleaaGreatDoorK10
import Derived.Lib.IndexMore
import Derived.Lib.CountLaws
import Derived.Laws.Strings3
set_option linter.all false
set_option linter.unusedSimpArgs false
set_option linter.unusedVariables false
set_option linter.unusedSectionVars false
set_option maxHeartbeats 64000000
set_option maxRecDepth 100000
section
open Go Go.Proofs AF HY LN
namespace RC
structure CoB (x:Co):Prop where
 sg:x.sig.length≤9223372036854775807
 tk:x.tok.length≤9223372036854775807
 cl:x.col.length≤9223372036854775807
def qtX(x:Co):Bool:=qZ (fun i=>decide (36<(x.col.getD i []).length)) x.col.length||(gtB x.tok||(decide (24<x.col.length)||(decide (36<x.sig.length)||gnB x.sec x.sig)))
theorem qDG(x:Co)(h:List AObj)(hb:CoB x):ACalls Tryz.prog 77 [.agg (coC x)] h (.bool (qtX x)) h:=by
 have c1:=fun h=>gtP x.tok h hb.tk
 have c2:=fun h=>gnP x.sec x.sig h hb.sg
 have hc:=hb.cl;obtain⟨R,hR⟩: ∃R,R=qtX x:=⟨_,rfl⟩
 rw[←hR];unfold qtX at hR;unfold qt at c1;unfold strs at c2;refine acO qBC ?_;simp (disch:=omega) only[qCO,coC,qu,go_sem];refine qp (T:=fun i:Nat=>qQ 40 [(1,.op h.length 1 0),(3,.int .i64 i)]) (H:=fun _=>h++ [.mem 1 26 (coC x)]) (inv:=fun i=>i≤x.col.length∧ ∀j,j<i→(fun i=>decide (36<(x.col.getD i []).length)) j=false) (m:=fun i=>x.col.length-i) 0 ⟨nzl _,fun j hj=>absurd hj (nnz j)⟩ (Wk.temps ?_) ?_
 ·(simp only[go_sem,qi,qe,qa,qh];try (repeat' first|(with_reducible apply aiA)|(apply qg;omega)|(apply qf;rfl)|exact qj))
 rintro i ⟨i1,i2⟩ K hK
 by_cases hi:i<x.col.length
 ·have k1:((i:Int)<x.col.length)=True:=eqt (by omega)
  by_cases g:36<(x.col.getD i []).length
  ·have hV:R=true:=by rw[hR,qy.2 ⟨i,hi,dqt g⟩];rfl
   obtain⟨s,hs⟩: ∃s,s=x.col.getD i []:=⟨_,rfl⟩
   have es:=hs.symm;rw[es]at g;have k2:((36:Int)<s.length)=True:=eqt (by omega);rw[hV];simp (disch:=omega) only[coC,qu,qn,k1,k2,es,go_sem]
   repeat' first
    |(apply qb;exact rvk;simp only[go_sem];exact qj)
    |with_reducible apply aiA
   all_goals try exact clz
  ·have i3:=jv i2 (dqf g);obtain⟨s,hs⟩: ∃s,s=x.col.getD i []:=⟨_,rfl⟩
   have es:=hs.symm;rw[es]at g;have k2:((36:Int)<s.length)=False:=eqf (by omega);simp (disch:=omega) only[coC,qu,qn,k1,k2,es,go_sem]
   repeat' first
    |with_reducible apply aiA
   all_goals try exact clz
   refine hK _ _ (i+1) ⟨hi,i3⟩ (by omega) (Wk.temps ?_)
   (simp only[go_sem,qi,qe,qa,qh];try (repeat' first|(with_reducible apply aiA)|(apply qg;omega)|(apply qf;rfl)|exact qj))
 have k1:((i:Int)<x.col.length)=False:=eqf (by omega);rw[ql.2 (fun j hj=>i2 j (by omega)),Bool.false_or]at hR;cases gA:gtB x.tok with
 |true=>
  rw[gA]at hR c1;rw[hR,Bool.true_or];simp (disch:=omega) only[coC,qu,k1,qt,go_sem]
  repeat' first
   |(refine qk ( .bool false) ?_;simp (disch:=omega) only[go_sem])
   |(refine cA (c1 _) flk ?_;simp (disch:=omega) only[go_sem])
   |(apply qb;exact rvk;simp only[go_sem];exact qj)
   |with_reducible apply aiA
  all_goals try exact clz
 |false=>
 rw[gA]at hR c1;rw[Bool.false_or]at hR
 by_cases g2:24<x.col.length
 ·have k2:((24:Int)<x.col.length)=True:=eqt (by omega);rw[hR,dqt g2,Bool.true_or];simp (disch:=omega) only[coC,qu,k1,qt,go_sem]
  repeat' first
   |(refine qk ( .bool false) ?_;simp (disch:=omega) only[go_sem])
   |(refine cA (c1 _) flk ?_;simp (disch:=omega) only[k2,go_sem])
   |(apply qb;exact rvk;simp only[go_sem];exact qj)
   |with_reducible apply aiA
  all_goals try exact clz
 have k2:((24:Int)<x.col.length)=False:=eqf (by omega);rw[dqf g2,Bool.false_or]at hR
 by_cases g3:36<x.sig.length
 ·have k3:((36:Int)<x.sig.length)=True:=eqt (by omega);rw[hR,dqt g3,Bool.true_or];simp (disch:=omega) only[coC,qu,k1,qt,strs,go_sem]
  repeat' first
   |(refine qk ( .bool false) ?_;simp (disch:=omega) only[go_sem])
   |(refine cA (c1 _) flk ?_;simp (disch:=omega) only[k2,k3,go_sem])
   |(apply qb;exact rvk;simp only[go_sem];exact qj)
   |with_reducible apply aiA
  all_goals try exact clz
 have k3:((36:Int)<x.sig.length)=False:=eqf (by omega);rw[dqf g3,Bool.false_or]at hR;rw[hR];simp (disch:=omega) only[coC,qu,k1,qt,strs,go_sem]
 repeat' first
  |((first|refine cA (c1 _) ?_ ?_|refine cG (fun e=>c2 _) ?_ ?_);exact flk;simp (disch:=omega) only[k2,k3,go_sem])
  |(apply qb;exact rvk;simp only[go_sem];exact qj)
  |with_reducible apply aiA
 all_goals try exact clz
def guR(u:Un)(k:Nat):Bool:=decide (8<(u.rds.getD k default).src.length)||gwB (u.rds.getD k default).words 8
def guB(u:Un):Bool:=decide (6<u.rds.length)||qZ (guR u) u.rds.length
def qrQ(l:List Un):Bool:=qZ (fun i=>guB (l.getD i default)) l.length||decide (12<l.length)
structure UnB (l:List Un):Prop where
 n:l.length≤9223372036854775807
 rd: ∀i,(l.getD i default).rds.length≤9223372036854775807
 wd: ∀i j,((l.getD i default).rds.getD j default).words.length≤9223372036854775807
theorem qDH(l:List Un)(h:List AObj)(hb:UnB l):ACalls Tryz.prog 78 [qO l] h (.bool (qrQ l)) h:=by
 have hn:=hb.n;obtain⟨R,hR⟩: ∃R,R=qrQ l:=⟨_,rfl⟩
 rw[←hR];unfold qrQ at hR;refine acO qBD ?_;simp (disch:=omega) only[qCP,qO,go_sem];refine qp (T:=fun i:Nat=>qQ 54 [(0,qO l),(3,.int .i64 i)]) (H:=fun _=>h) (inv:=fun i=>i≤l.length∧ ∀j,j<i→(fun i=>guB (l.getD i default)) j=false) (m:=fun i=>l.length-i) 0 ⟨nzl _,fun j hj=>absurd hj (nnz j)⟩ (Wk.temps ?_) ?_
 ·(simp only[qO,go_sem,qi,qe,qa,qh];try (repeat' first|(with_reducible apply aiA)|(apply qg;omega)|(apply qf;rfl)|exact qj))
 rintro i ⟨i1,i2⟩ K hK
 by_cases hi:i<l.length
 ·have k1:((i:Int)<l.length)=True:=eqt (by omega);have hit:guB (l.getD i default)=true→R=true:=fun hc=>by rw[hR,qy.2 ⟨i,hi,hc⟩];rfl
  have i3:=fun hc=>jv (p:=fun i=>guB (l.getD i default)) i2 hc
  have hrd:=hb.rd i;have hwd:=hb.wd i;obtain⟨u,hu⟩: ∃u,u=l.getD i default:=⟨_,rfl⟩
  have eu:=hu.symm;rw[eu]at hit hrd;simp only[eu]at i3 hwd;have hB:guB u=(decide (6<u.rds.length)||qZ (guR u) u.rds.length):=rfl
  by_cases g1:6<u.rds.length
  ·have k2:((6:Int)<u.rds.length)=True:=eqt (by omega);rw[hit (by rw[hB,dqt g1];rfl)];simp (disch:=omega) only[qO,unC,jc,k1,k2,eu,go_sem]
   repeat' first
    |(apply qd;exact rvk;simp only[go_sem];exact qj)
    |with_reducible apply aiA
   all_goals try exact clz
  have k2:((6:Int)<u.rds.length)=False:=eqf (by omega);rw[dqf g1,Bool.false_or]at hB;simp (disch:=omega) only[qO,unC,jc,k1,k2,eu,go_sem]
  repeat' first
   |with_reducible apply aiA
  all_goals try exact clz
  refine qp (T:=fun k:Nat=>qQ 54 [(0,qO l),(3,.int .i64 i),(4,.int .i64 k)]) (H:=fun _=>h) (inv:=fun k=>k≤u.rds.length∧ ∀j,j<k→guR u j=false) (m:=fun k=>u.rds.length-k) 0 ⟨nzl _,fun j hj=>absurd hj (nnz j)⟩ (Wk.temps ?_) ?_
  ·(simp only[qO,go_sem,qi,qe,qa,qh];try (repeat' first|(with_reducible apply aiA)|(apply qg;omega)|(apply qf;rfl)|exact qj))
  rintro k ⟨u1,u2⟩ K2 hK2
  by_cases hk:k<u.rds.length
  ·have t1:((k:Int)<u.rds.length)=True:=eqt (by omega);have hkit:guR u k=true→R=true:=fun hc=>hit (by rw[hB,qy];exact⟨k,hk,hc⟩)
   have u3:=fun hc=>jv (p:=guR u) u2 hc
   have hG:guR u k=(decide (8<(u.rds.getD k default).src.length)||gwB (u.rds.getD k default).words 8):=rfl;have c1:=fun h=>gwP (u.rds.getD k default).words 8 h (hwd k)
   obtain⟨r,hr⟩: ∃r,r=u.rds.getD k default:=⟨_,rfl⟩
   have er:=hr.symm;simp only[er]at hG c1;unfold strs at c1;have z8:((8:Nat):Int)=8:=rfl;simp only[z8]at c1
   by_cases g2:8<r.src.length
   ·have t2:((8:Int)<r.src.length)=True:=eqt (by omega);rw[hkit (by rw[hG,dqt g2];rfl)];simp (disch:=omega) only[qO,unC,jc,rdC,qn,t1,eu,er,k1,t2,go_sem]
    repeat' first
     |(refine qk ( .bool false) ?_;simp (disch:=omega) only[go_sem])
     |(apply qd;exact rvk;simp only[go_sem];exact qj)
     |with_reducible apply aiA
    all_goals try exact clz
   have t2:((8:Int)<r.src.length)=False:=eqf (by omega);rw[dqf g2,Bool.false_or]at hG;cases g3:gwB r.words 8 with
   |true=>
    rw[g3]at hG c1;rw[hkit hG];simp (disch:=omega) only[qO,unC,jc,rdC,qn,t1,eu,er,strs,k1,t2,go_sem]
    repeat' first
     |(refine cG (fun e=>c1 _) flk ?_;simp (disch:=omega) only[go_sem])
     |(apply qd;exact rvk;simp only[go_sem];exact qj)
     |with_reducible apply aiA
    all_goals try exact clz
   |false=>
    rw[g3]at hG c1;simp (disch:=omega) only[qO,unC,jc,rdC,qn,t1,eu,er,strs,k1,t2,go_sem]
    repeat' first
     |(refine cG (fun e=>c1 _) flk ?_;simp (disch:=omega) only[go_sem])
     |with_reducible apply aiA
    all_goals try exact clz
    refine hK2 _ _ (k+1) ⟨hk,u3 hG⟩ (by omega) (Wk.temps ?_)
    (simp only[qO,go_sem,qi,qe,qa,qh];try (repeat' first|(with_reducible apply aiA)|(apply qg;omega)|(apply qf;rfl)|exact qj))
  ·have t1:((k:Int)<u.rds.length)=False:=eqf (by omega);have hz:guB u=false:=by rw[hB,ql];exact fun j hj=>u2 j (by omega)
   simp (disch:=omega) only[qO,unC,jc,k1,t1,eu,go_sem]
   repeat' first
    |with_reducible apply aiA
   all_goals try exact clz
   refine hK _ _ (i+1) ⟨hi,i3 hz⟩ (by omega) (Wk.temps ?_)
   (simp only[qO,go_sem,qi,qe,qa,qh];try (repeat' first|(with_reducible apply aiA)|(apply qg;omega)|(apply qf;rfl)|exact qj))
 have k1:((i:Int)<l.length)=False:=eqf (by omega);rw[ql.2 (fun j hj=>i2 j (by omega)),Bool.false_or]at hR;have e1:decide ((12:Int)<l.length)=decide (12<l.length):=decide_eq_decide.2 (by omega);rw[hR,←e1];simp (disch:=omega) only[qO,k1,go_sem]
 repeat' first
  |(apply qd;exact rvk;simp only[go_sem];exact qj)
end RC
end
section
open Go Go.Proofs AF
def qaz:List Nat:= []
def qjy:C:=
 ((C.ops [O1 1 (.box 0 47) 0,MC 2 (.bool false)]).seq ((C.ops [O1 3 (.fldA 0) 1,O1 4 (.load (some 4)) 3,O1 5 (.call 77 true) 4,MV 6 5,P1 7 6 false (.fldA 4) 1,P1 8 6 false
 (.load none) 7,P1 9 6 false (.call 78 true) 8,PT 10 6 9,MV 11 10,P1 12 11 false (.fldA 0) 1,P1 13 11 false (.fldA 1) 12,P1 14 11 false (.load none) 13,P1 15 11 false (.fldA
 7) 1,P1 16 11 false (.load none) 15,P2 17 11 false (.call 69 true) 14 16,PT 18 11 17,MV 19 18,P1 20 19 false (.fldA 7) 1,P1 21 19 false (.load none) 20,P1 22 19 false .len
 21,PC 23 19 false (.bin .gtr) 22 (i6 18),PT 24 19 23,MV 25 24,P1 26 25 false (.fldA 5) 1,P1 27 25 false (.load none) 26,P1 28 25 false .len 27,PC 29 25 false (.bin .gtr) 28
 (i6 12),PT 30 25 29,MV 31 30,P1 32 31 false (.fldA 5) 1,P1 33 31 false (.load none) 32,PC 34 31 false (.call 90 true) 33 (.fn (Fn.func 91) [] []),PT 35 31 34,MV 36 35,P1 37
 36 false (.fldA 6) 1,P1 38 36 false (.load none) 37,P1 39 36 false .len 38,PC 40 36 false (.bin .gtr) 39 (i6 14),PT 41 36 40,MV 42 41,P1 43 42 false (.fldA 6) 1,P1 44 42
 false (.load none) 43,PC 45 42 false (.call 92 true) 44 (.fn (Fn.func 93) [] []),PT 46 42 45,MV 47 46,P1 48 47 false (.fldA 8) 1,P1 49 47 false (.load none) 48,P1 50 47 false
 .len 49,PC 51 47 false (.bin .gtr) 50 (i6 18),PT 52 47 51,MV 53 52,P1 54 53 false (.fldA 8) 1,P1 55 53 false (.load none) 54,PC 56 53 false (.call 94 true) 55 (.fn (Fn.func
 95) [] []),PT 57 53 56,MV 58 57,P1 59 58 false (.fldA 9) 1,P1 60 58 false (.load none) 59,P1 61 58 false .len 60,PC 62 58 false (.bin .gtr) 61 (i6 20),PT 63 58 62,MV 2
 63]).seq
 C.ret))
theorem qcT:qE Tryz.prog 23 64 1 [RV.tmp 2] qjy:=fi Tryz.f23 [1] qaz []
def qCF:C:=
 ((C.ops [O1 1 (.box 0 47) 0,ON 2 (.nilo 1 6 58) [],MC 3 (i6 0)]).seq ((C.ops [O1 4 (.fldA 0) 1,O1 5 (.load (some 4)) 4,O1 6 (.fldA 4) 1,LD 7 6,O1 8 (.fldA 5) 1,LD 9 8,O1 10
 (.fldA 6) 1,LD 11 10,O1 12 (.fldA 7) 1,LD 13 12,O1 14 (.fldA 8) 1,LD 15 14,O1 16 (.fldA 9) 1,LD 17 16,ON 18 (.call 96 true) [.t 5,.t 7,.t 9,.t 11,.t 13,.t 15,.t 17],
 O1 19 (.ext 0) 18,O1 20 (.ext 1) 18,MV 2 19,MV 3 20]).seq
 C.ret))
theorem qBn:qE Tryz.prog 25 21 2 [RV.tmp 2,RV.tmp 3] qCF:=fi Tryz.f25 [1,2] qaz []
def qCT:C:=
 ((C.ops [⟨some 0,none,.alloc 0 26 [.str [],.nl,.nl,.nl],[]⟩]).seq ((C.ops [⟨some 1,none,.bslc 1 1 2 9 [.str []] [(0,1),(1,1)],[.c (.str [65]),.c (.str [66])]⟩,ON 2
 (.call 163 true) [.c (.str [100,101,117,115])],ON 3 (.call 163 true) [.c (.str [101,115,116])],ON 4 (.call 163 true) [.c (.str [98,111,110,117,115])],⟨some 5,none,
 .bslc 2 6 3 124 [.str [],.str [],.str [],i6 0,i6 0,.str []] [(0,6),(6,6),(12,6)],[.t 2,.t 3,.t 4]⟩,ON 6 (.call 163 true) [.c (.str [100,101,117,115])],ON 7 (.call
 163 true) [.c (.str [98,111,110,117,115])],⟨some 8,none,.bslc 3 6 2 124 [.str [],.str [],.str [],i6 0,i6 0,.str []] [(0,6),(6,6)],[.t 6,.t 7]⟩,⟨some 9,none,
 .bslc 4 1 2 125 [.nl] [(0,1),(1,1)],[.t 5,.t 8]⟩,⟨some 10,none,.bslc 5 1 2 3 [i6 0] [(0,1),(1,1)],[.c (i6 0),.c (i6 0)]⟩,⟨some 11,none,.bslc 6 1 2 3 [i6 0] [(0,1),
 (1,1)],[.c (i6 1),.c (i6 (-1))]⟩,⟨some 12,none,.bslc 7 1 2 3 [i6 0] [(0,1),(1,1)],[.c (i6 2),.c (i6 1)]⟩,⟨some 13,none,.bslc 8 1 3 62 [.nl] [(0,1),(1,1),(2,1)],
 [.t 10,.t 11,.t 12]⟩,⟨some 14,none,.build [.str [],.nl,.nl,.nl] [(0,1),(1,1),(2,1),(3,1)],[.c (.str [97]),.t 1,.t 9,.t 13]⟩,ST 4 0 14]).seq
 C.ret))
theorem qBJ:qE Tryz.prog 97 15 9 [RV.cell 0 (some 4)] qCT:=fi Tryz.f97 [0,1,5,8,9,10,11,12,13] qaz []
def qwG:C:=
 ((C.ops [⟨some 2,none,.alloc 0 124 [.str [],.str [],.str [],i6 0,i6 0,.str []],[]⟩]).seq ((C.ops [MV 3 0,MV 4 0,⟨some 5,none,.build [.str [],.str [],.str [],i6 0,i6
 0,.str []] [(0,1),(1,1)],[.t 3,.t 4]⟩,ST 6 2 5]).seq
 C.ret))
theorem qyc:qE Tryz.prog 163 6 1 [RV.cell 2 (some 6)] qwG:=fi Tryz.f163 [2] qaz []
def qCQ:C:=
 ((C.ops [MC 2 (.bool false)]).seq ((C.ops [MV 3 0,OC 4 (.call 70 true) 3 (i6 8),MV 2 4]).seq
 C.ret))
theorem qBF:qE Tryz.prog 91 5 0 [RV.tmp 2] qCQ:=fi Tryz.f91 [] qaz []
def qCR:C:=
 ((C.ops [O1 1 (.box 0 64) 0,MC 2 (.bool false)]).seq ((C.ops [O1 3 (.fldA 0) 1,LD 4 3,O1 5 .slen 4,BC 6 .gtr 5 (i6 30),MV 2 6]).seq
 C.ret))
theorem qBG:qE Tryz.prog 93 7 1 [RV.tmp 2] qCR:=fi Tryz.f93 [1] qaz []
def qCS:C:=
 ((C.ops [MC 2 (.bool false)]).seq ((C.ops [MV 3 0,O1 4 .slen 3,BC 5 .gtr 4 (i6 40),MV 2 5]).seq
 C.ret))
theorem qBI:qE Tryz.prog 95 6 0 [RV.tmp 2] qCS:=fi Tryz.f95 [] qaz []
def qCJ:C:=
 ((C.ops [ON 2 (.nilo 0 1 9) []]).seq ((C.ops [ON 3 (.nilo 1 1 9) []]).seq (((C.ops [MV 6 0,O1 7 .len 6,MC 8 (i6 0)]).seq (C.block 0 ((C.ops [BI 9 .lss 8 7]).seq ((C.cond (.t 9)
 C.skip (C.exit 0)).seq ((C.block 1 ((C.ops [O2 10 (.idxA 7) 6 8,O1 11 (.load (some 7)) 10,⟨some 5,none,.alloc 2 64 [.str [],i6 0,i6 0,i6 0,.bool false,.bool false,.str
 []],[]⟩,ST 7 5 11]).seq (C.ops [MV 12 3,O1 13 (.fldA 0) 5,LD 14 13,⟨some 15,none,.bslc 3 1 1 9 [.str []] [(0,1)],[.t 14]⟩,O2 16 (.app 4 1 9 16) 12 15,MV 3 16]))).seq
 (C.ops [BC 17 .add 8 (i6 1),MV 8 17])))).loop)).seq ((C.ops [MV 18 3,MV 2 18]).seq
 C.ret))))
theorem qBu:qE Tryz.prog 48 19 5 [RV.tmp 2] qCJ:=fi Tryz.f48 [2,3,5,15,16] qaz []
end
section
open Go Go.Proofs AF HY LN
namespace RC
def jO(L:List (List Str)):AV:= .sl L.length fun i=> [strs (L.getD i [])]
def km(L:List Bool):AV:= .sl L.length fun i=> [.bool (L.getD i false)]
theorem flag_clsV(L:List (List Str)):(jO L).flag=true:=rfl
theorem strip_clsV(L:List (List Str)):(jO L).strip=jO L:=rfl
theorem flag_bolV(L:List Bool):(km L).flag=true:=rfl
theorem strip_bolV(L:List Bool):(km L).strip=km L:=rfl
section
variable {fz : Nat → Bool} {h : List AObj} {n : Nat}
theorem rei_clsV(L:List (List Str)):rei fz h (n+1) (jO L)=jO L:=rfl
theorem rei_bolV(L:List Bool):rei fz h (n+1) (km L)=km L:=rfl
theorem frz_clsV(L:List (List Str)):frz fz h (n+1) (jO L)=jO L:=rfl
theorem frz_bolV(L:List Bool):frz fz h (n+1) (km L)=km L:=rfl
end
attribute [go_sem] flag_clsV strip_clsV flag_bolV strip_bolV rei_clsV rei_bolV frz_clsV frz_bolV
def apC(a:Ap):List AV:= [.str a.x.sec,strs a.x.sig,qt a.x.tok,qu a.x.col,qO a.l,jO a.cls,zc a.b,qL a.gs,strs a.lay,km a.pos]
structure ApB (a:Ap):Prop where
 x:CoB a.x
 l:UnB a.l
 c:a.cls.length≤9223372036854775807
 cw: ∀i,(a.cls.getD i []).length≤9223372036854775807
 b:a.b.length≤9223372036854775807
 g:a.gs.length≤9223372036854775807
 y:a.lay.length≤9223372036854775807
 p:a.pos.length≤9223372036854775807
theorem gr1(w:List Str)(h:List AObj)(hn:w.length≤9223372036854775807):ACalls Tryz.prog 91 [strs w] h (.bool (gwB w 8)) h:=by
 have c1:=fun h=>gwP w 8 h hn
 have z8:((8:Nat):Int)=8:=rfl;simp only[z8]at c1;refine acO qBF ?_;simp (disch:=omega) only[qCQ,go_sem]
 repeat' first
  |(refine cA (c1 _) flk ?_;simp (disch:=omega) only[go_sem])
  |(apply qd;exact rvk;simp only[go_sem];exact qj)
theorem gr2(w:Wd)(h:List AObj):ACalls Tryz.prog 93 [.agg (wdC w)] h (.bool (decide (30<w.text.length))) h:=by
 have e1:decide ((30:Int)<w.text.length)=decide (30<w.text.length):=decide_eq_decide.2 (by omega);rw[←e1];refine acO qBG ?_;simp (disch:=omega) only[qCR,wdC,go_sem]
 repeat' first
  |(apply qb;exact rvk;simp only[go_sem];exact qj)
theorem gr3(s:Str)(h:List AObj):ACalls Tryz.prog 95 [.str s] h (.bool (decide (40<s.length))) h:=by
 have e1:decide ((40:Int)<s.length)=decide (40<s.length):=decide_eq_decide.2 (by omega);rw[←e1];refine acO qBI ?_;simp (disch:=omega) only[qCS,go_sem]
 repeat' first
  |(apply qd;exact rvk;simp only[go_sem];exact qj)
theorem gc1(L:List (List Str))(h:List AObj)(hn:L.length≤9223372036854775807)(hw: ∀i,(L.getD i []).length≤9223372036854775807):
  ACalls Tryz.prog 90 [jO L,.fn (.func 91) [] []] h (.bool (qZ (fun j=>gwB (L.getD j []) 8) L.length)) h:=by
 unfold jO;refine qib qBE ⟨rfl,rfl⟩ ⟨rfl,rfl⟩ (qaO qx9 L.length (fun j=> [strs (L.getD j [])]) (fun j=>strs (L.getD j [])) _ [] [] _ h (fun i _=>⟨rfl,by simp[zZ],rfl,rfl,rfl⟩) (fun i _=> ?_) (by omega));exact gr1 _ h (hw i)
theorem gc2(b:List Wd)(h:List AObj)(hn:b.length≤9223372036854775807):
  ACalls Tryz.prog 92 [zc b,.fn (.func 93) [] []] h (.bool (qZ (fun j=>decide (30<(b.getD j default).text.length)) b.length)) h:=by
 unfold zc;refine qib qpq ⟨rfl,rfl⟩ ⟨rfl,rfl⟩ (qaO qg6 b.length (fun j=>wdC (b.getD j default)) (fun j=> .agg (wdC (b.getD j default))) _ [] [] _ h (fun i _=>⟨rfl,by simp[zZ,wdC],rfl,rfl,rfl⟩) (fun i _=> ?_) (by omega));exact gr2 _ h
theorem gc3(L:List Str)(h:List AObj)(hn:L.length≤9223372036854775807):
  ACalls Tryz.prog 94 [strs L,.fn (.func 95) [] []] h (.bool (qZ (fun j=>decide (40<(L.getD j []).length)) L.length)) h:=by
 unfold strs;refine qib qBH ⟨rfl,rfl⟩ ⟨rfl,rfl⟩ (qaO qBr L.length (fun j=> [.str (L.getD j [])]) (fun j=> .str (L.getD j [])) _ [] [] _ h (fun i _=>⟨rfl,by simp[zZ],rfl,rfl,rfl⟩) (fun i _=> ?_) (by omega));exact gr3 _ h
def qoc(a:Ap):Bool:=qtX a.x||(qrQ a.l||(qlH a.x.sig a.gs||(decide (18<a.gs.length)||(decide (12<a.cls.length)||(qZ (fun j=>gwB (a.cls.getD j []) 8) a.cls.length||(decide (14<a.b.length)||(qZ (fun j=>decide (30<(a.b.getD j default).text.length)) a.b.length||(decide (18<a.lay.length)||(qZ (fun j=>decide (40<(a.lay.getD j []).length)) a.lay.length||decide (20<a.pos.length))))))))))
theorem grP(a:Ap)(h:List AObj)(hb:ApB a):ACalls Tryz.prog 23 [.agg (apC a)] h (.bool (qoc a)) h:=by
 have c1:=fun h=>qDG a.x h hb.x
 have c2:=fun h=>qDH a.l h hb.l
 have c3:=fun h=>qDI a.x.sig a.gs h hb.x.sg hb.g
 have c4:=fun h=>gc1 a.cls h hb.c hb.cw
 have c5:=fun h=>gc2 a.b h hb.b
 have c6:=fun h=>gc3 a.lay h hb.y
 obtain⟨bA,hA⟩: ∃b,b=qtX a.x:=⟨_,rfl⟩
 simp only[←hA]at c1;obtain⟨bB,hB⟩: ∃b,b=qrQ a.l:=⟨_,rfl⟩
 simp only[←hB]at c2;obtain⟨bC,hC⟩: ∃b,b=qlH a.x.sig a.gs:=⟨_,rfl⟩
 simp only[←hC]at c3;obtain⟨bF,hF⟩: ∃b,b=qZ (fun j=>gwB (a.cls.getD j []) 8) a.cls.length:=⟨_,rfl⟩
 simp only[←hF]at c4;obtain⟨bH,hH⟩: ∃b,b=qZ (fun j=>decide (30<(a.b.getD j default).text.length)) a.b.length:=⟨_,rfl⟩
 simp only[←hH]at c5;obtain⟨bJ,hJ⟩: ∃b,b=qZ (fun j=>decide (40<(a.lay.getD j []).length)) a.lay.length:=⟨_,rfl⟩
 simp only[←hJ]at c6;unfold coC strs qt qu at c1;unfold qO at c2;unfold strs qL at c3;unfold jO at c4;unfold zc at c5;unfold strs at c6;obtain⟨R,hR⟩: ∃R,R=qoc a:=⟨_,rfl⟩
 rw[←hR];unfold qoc at hR;rw[←hA]at hR;rw[←hB]at hR;rw[←hC]at hR;rw[←hF]at hR;rw[←hH]at hR;rw[←hJ]at hR;cases bA with
 |true=>
  rw[Bool.true_or]at hR;rw[hR];refine acO qcT ?_;simp (disch:=omega) only[qjy,apC,strs,qt,qu,qO,jO,zc,qL,km,go_sem]
  repeat' first
   |(refine qk ( .bool false) ?_;simp (disch:=omega) only[go_sem])
   |(refine cA (c1 _) flk ?_;simp (disch:=omega) only[go_sem])
   |(apply qb;exact rvk;simp only[go_sem];exact qj)
 |false=>
 rw[Bool.false_or]at hR;cases bB with
 |true=>
  rw[Bool.true_or]at hR;rw[hR];refine acO qcT ?_;simp (disch:=omega) only[qjy,apC,strs,qt,qu,qO,jO,zc,qL,km,go_sem]
  repeat' first
   |(refine qk ( .bool false) ?_;simp (disch:=omega) only[go_sem])
   |((first|refine cA (c1 _) ?_ ?_|refine cG (fun e=>c2 _) ?_ ?_);exact flk;simp (disch:=omega) only[go_sem])
   |(apply qb;exact rvk;simp only[go_sem];exact qj)
 |false=>
 rw[Bool.false_or]at hR;cases bC with
 |true=>
  rw[Bool.true_or]at hR;rw[hR];refine acO qcT ?_;simp (disch:=omega) only[qjy,apC,strs,qt,qu,qO,jO,zc,qL,km,go_sem]
  repeat' first
   |(refine qk ( .bool false) ?_;simp (disch:=omega) only[go_sem])
   |((first|refine cA (c1 _) ?_ ?_|refine cG (fun e=>c2 _) ?_ ?_|refine cG (fun e=>c3 _) ?_ ?_);exact flk;simp (disch:=omega) only[go_sem])
   |(apply qb;exact rvk;simp only[go_sem];exact qj)
 |false=>
 rw[Bool.false_or]at hR
 by_cases gD:18<a.gs.length
 ·have kD:((18:Int)<a.gs.length)=True:=eqt (by omega);rw[dqt gD,Bool.true_or]at hR;rw[hR];refine acO qcT ?_;simp (disch:=omega) only[qjy,apC,strs,qt,qu,qO,jO,zc,qL,km,go_sem]
  repeat' first
   |(refine qk ( .bool false) ?_;simp (disch:=omega) only[go_sem])
   |((first|refine cA (c1 _) ?_ ?_|refine cG (fun e=>c2 _) ?_ ?_|refine cG (fun e=>c3 _) ?_ ?_);exact flk;simp (disch:=omega) only[kD,go_sem])
   |(apply qb;exact rvk;simp only[go_sem];exact qj)
 have kD:((18:Int)<a.gs.length)=False:=eqf (by omega);rw[dqf gD,Bool.false_or]at hR
 by_cases gE:12<a.cls.length
 ·have kE:((12:Int)<a.cls.length)=True:=eqt (by omega);rw[dqt gE,Bool.true_or]at hR;rw[hR];refine acO qcT ?_;simp (disch:=omega) only[qjy,apC,strs,qt,qu,qO,jO,zc,qL,km,go_sem]
  repeat' first
   |(refine qk ( .bool false) ?_;simp (disch:=omega) only[go_sem])
   |((first|refine cA (c1 _) ?_ ?_|refine cG (fun e=>c2 _) ?_ ?_|refine cG (fun e=>c3 _) ?_ ?_);exact flk;simp (disch:=omega) only[kD,kE,go_sem])
   |(apply qb;exact rvk;simp only[go_sem];exact qj)
 have kE:((12:Int)<a.cls.length)=False:=eqf (by omega);rw[dqf gE,Bool.false_or]at hR;cases bF with
 |true=>
  rw[Bool.true_or]at hR;rw[hR];refine acO qcT ?_;simp (disch:=omega) only[qjy,apC,strs,qt,qu,qO,jO,zc,qL,km,go_sem]
  repeat' first
   |(refine qk ( .bool false) ?_;simp (disch:=omega) only[go_sem])
   |((first|refine cA (c1 _) ?_ ?_|refine cG (fun e=>c2 _) ?_ ?_|refine cG (fun e=>c3 _) ?_ ?_|refine cG (fun e=>c4 _) ?_ ?_);exact flk;simp (disch:=omega) only[kD,kE,go_sem])
   |(apply qb;exact rvk;simp only[go_sem];exact qj)
 |false=>
 rw[Bool.false_or]at hR
 by_cases gG:14<a.b.length
 ·have kG:((14:Int)<a.b.length)=True:=eqt (by omega);rw[dqt gG,Bool.true_or]at hR;rw[hR];refine acO qcT ?_;simp (disch:=omega) only[qjy,apC,strs,qt,qu,qO,jO,zc,qL,km,go_sem]
  repeat' first
   |(refine qk ( .bool false) ?_;simp (disch:=omega) only[go_sem])
   |((first|refine cA (c1 _) ?_ ?_|refine cG (fun e=>c2 _) ?_ ?_|refine cG (fun e=>c3 _) ?_ ?_|refine cG (fun e=>c4 _) ?_ ?_);exact flk;simp (disch:=omega) only[kD,kE,kG,go_sem])
   |(apply qb;exact rvk;simp only[go_sem];exact qj)
 have kG:((14:Int)<a.b.length)=False:=eqf (by omega);rw[dqf gG,Bool.false_or]at hR;cases bH with
 |true=>
  rw[Bool.true_or]at hR;rw[hR];refine acO qcT ?_;simp (disch:=omega) only[qjy,apC,strs,qt,qu,qO,jO,zc,qL,km,go_sem]
  repeat' first
   |(refine qk ( .bool false) ?_;simp (disch:=omega) only[go_sem])
   |((first|refine cA (c1 _) ?_ ?_|refine cG (fun e=>c2 _) ?_ ?_|refine cG (fun e=>c3 _) ?_ ?_|refine cG (fun e=>c4 _) ?_ ?_|refine cG (fun e=>c5 _) ?_ ?_);exact flk;simp (disch:=omega) only[kD,kE,kG,go_sem])
   |(apply qb;exact rvk;simp only[go_sem];exact qj)
 |false=>
 rw[Bool.false_or]at hR
 by_cases gI:18<a.lay.length
 ·have kI:((18:Int)<a.lay.length)=True:=eqt (by omega);rw[dqt gI,Bool.true_or]at hR;rw[hR];refine acO qcT ?_;simp (disch:=omega) only[qjy,apC,strs,qt,qu,qO,jO,zc,qL,km,go_sem]
  repeat' first
   |(refine qk ( .bool false) ?_;simp (disch:=omega) only[go_sem])
   |((first|refine cA (c1 _) ?_ ?_|refine cG (fun e=>c2 _) ?_ ?_|refine cG (fun e=>c3 _) ?_ ?_|refine cG (fun e=>c4 _) ?_ ?_|refine cG (fun e=>c5 _) ?_ ?_);exact flk;simp (disch:=omega) only[kD,kE,kG,kI,go_sem])
   |(apply qb;exact rvk;simp only[go_sem];exact qj)
 have kI:((18:Int)<a.lay.length)=False:=eqf (by omega);rw[dqf gI,Bool.false_or]at hR;cases bJ with
 |true=>
  rw[Bool.true_or]at hR;rw[hR];refine acO qcT ?_;simp (disch:=omega) only[qjy,apC,strs,qt,qu,qO,jO,zc,qL,km,go_sem]
  repeat' first
   |((first|refine cA (c1 _) ?_ ?_|refine cG (fun e=>c2 _) ?_ ?_|refine cG (fun e=>c3 _) ?_ ?_|refine cG (fun e=>c4 _) ?_ ?_|refine cG (fun e=>c5 _) ?_ ?_|refine cG (fun e=>c6 _) ?_ ?_);exact flk;simp (disch:=omega) only[kD,kE,kG,kI,go_sem])
   |(apply qb;exact rvk;simp only[go_sem];exact qj)
 |false=>
 rw[Bool.false_or]at hR;have e1:decide ((20:Int)<a.pos.length)=decide (20<a.pos.length):=decide_eq_decide.2 (by omega);rw[hR,←e1];refine acO qcT ?_;simp (disch:=omega) only[qjy,apC,strs,qt,qu,qO,jO,zc,qL,km,go_sem]
 repeat' first
  |((first|refine cA (c1 _) ?_ ?_|refine cG (fun e=>c2 _) ?_ ?_|refine cG (fun e=>c3 _) ?_ ?_|refine cG (fun e=>c4 _) ?_ ?_|refine cG (fun e=>c5 _) ?_ ?_|refine cG (fun e=>c6 _) ?_ ?_);exact flk;simp (disch:=omega) only[kD,kE,kG,kI,go_sem])
  |(apply qb;exact rvk;simp only[go_sem];exact qj)
  |with_reducible apply aiA
 all_goals try exact clz
theorem qV{α:Type}{d:α}(L:List α)(P:α→Prop)(hd:P d)(h: ∀i,i<L.length→P (L.getD i d)): ∀i,P (L.getD i d):=by
 intro i
 by_cases hi:i<L.length
 ·exact h i hi
 ·rw[gdqA,List.getElem?_eq_none (by omega)];exact hd
theorem qy7{x:Co}(h:qtX x=false):qv0 x∧x.col.length≤24∧x.sig.length≤36:=by
 unfold qtX at h;rw[Bool.or_eq_false_iff,Bool.or_eq_false_iff,Bool.or_eq_false_iff,Bool.or_eq_false_iff,ql,decide_eq_false_iff_not,decide_eq_false_iff_not]at h;obtain⟨h1,h2,h3,h4,h5⟩:=h;unfold gtB at h2;rw[Bool.or_eq_false_iff,ql,Bool.or_eq_false_iff,Bool.or_eq_false_iff,decide_eq_false_iff_not,decide_eq_false_iff_not]at h2;obtain⟨t1,t2,t3,t4⟩:=h2;unfold gnB at h5;rw[Bool.or_eq_false_iff,ql,decide_eq_false_iff_not]at h5;obtain⟨n1,n2⟩:=h5;have hrow: ∀i,i<x.tok.length→(x.tok.getD i []).length≤6∧ ∀j,j<(x.tok.getD i []).length→qb1 ((x.tok.getD i []).getD j default)=false:=fun i hi=>by
  have:=t1 i hi
  unfold qdh at this;rw[Bool.or_eq_false_iff,Bool.or_eq_false_iff,decide_eq_false_iff_not,ql]at this;exact⟨by omega,this.2.2⟩
 have hd0:qsj (default:Tk):=⟨by decide,by decide,by decide,by decide⟩
 refine⟨⟨by omega,by omega,?_,by omega,?_,?_,by omega,?_⟩,by omega,by omega⟩
 ·exact qV x.sig (fun s=>s.length≤1000000000) (by decide) fun i hi=>by
   have:=of_decide_eq_false (n1 i hi)
   omega
 ·exact qV x.tok (fun s=>s.length≤1000000000) (by decide) fun i hi=>by have:=(hrow i hi).1;omega
 ·exact qV x.tok (fun s=> ∀j,qsj (s.getD j default)) (fun j=>by simpa using hd0) fun i hi=>qV _ qsj hd0 fun j hj=>by
   have:=(hrow i hi).2 j hj
   unfold qb1 at this;simp only[Bool.or_eq_false_iff,decide_eq_false_iff_not]at this;exact⟨by omega,by omega,by omega,by omega⟩
 ·exact qV x.col (fun s=>s.length≤1000000000) (by decide) fun i hi=>by
   have:=of_decide_eq_false (h1 i hi)
   omega
theorem qy8{l:List Un}(h:qrQ l=false):qwi l∧l.length≤12:=by
 unfold qrQ at h;rw[Bool.or_eq_false_iff,ql,decide_eq_false_iff_not]at h;obtain⟨h1,h2⟩:=h;have hu: ∀i,i<l.length→(l.getD i default).rds.length≤6∧ ∀j,j<(l.getD i default).rds.length→((l.getD i default).rds.getD j default).src.length≤8∧((l.getD i default).rds.getD j default).words.length≤8:=fun i hi=>by
  have:=h1 i hi
  unfold guB at this;rw[Bool.or_eq_false_iff,decide_eq_false_iff_not,ql]at this;refine⟨by omega,fun j hj=> ?_⟩;have h3:=this.2 j hj;unfold guR at h3;rw[Bool.or_eq_false_iff,decide_eq_false_iff_not]at h3
  have:=(qlO h3.2).1
  exact⟨by omega,by omega⟩
 refine⟨⟨by omega,?_,?_,?_⟩,by omega⟩
 ·exact qV l (fun u=>u.rds.length≤1000000000) (by decide) fun i hi=>by have:=(hu i hi).1;omega
 ·exact qV l (fun u=> ∀j,(u.rds.getD j default).src.length≤1000000000) (fun j=>by simp[show (default:Un).rds= []from rfl,show (default:Rd).src= []from rfl]) fun i hi=>qV _ (fun r:Rd=>r.src.length≤1000000000) (by decide) fun j hj=>by have:=(hu i hi).2 j hj;omega
 ·exact qV l (fun u=> ∀j,(u.rds.getD j default).words.length≤1000000000) (fun j=>by simp[show (default:Un).rds= []from rfl,show (default:Rd).words= []from rfl]) fun i hi=>qV _ (fun r:Rd=>r.words.length≤1000000000) (by decide) fun j hj=>by have:=(hu i hi).2 j hj;omega
structure qsh (a:Ap):Prop where
 co:qv0 a.x
 un:qwi a.l
 l12:a.l.length≤12
 b14:a.b.length≤14
 bt: ∀i,(a.b.getD i default).text.length≤30
 y18:a.lay.length≤18
 yl: ∀i,(a.lay.getD i []).length≤40
 p20:a.pos.length≤20
 c12:a.cls.length≤12
 cw: ∀i,(a.cls.getD i []).length≤8
 g42:qlH a.x.sig a.gs=false
theorem qlI{a:Ap}(h:qoc a=false):qsh a:=by
 unfold qoc at h;simp only[Bool.or_eq_false_iff,decide_eq_false_iff_not]at h;obtain⟨h1,h2,h3,h4,h5,h6,h7,h8,h9,h10,h11⟩:=h;obtain⟨o1,o2,o3⟩:=qy7 h1;obtain⟨u1,u2⟩:=qy8 h2;refine⟨o1,u1,u2,by omega,?_,by omega,?_,by omega,by omega,?_,h3⟩
 ·exact qV a.b (fun w=>w.text.length≤30) (by decide) fun i hi=>by have:=of_decide_eq_false (ql.1 h8 i hi);omega
 ·exact qV a.lay (fun s=>s.length≤40) (by decide) fun i hi=>by have:=of_decide_eq_false (ql.1 h10 i hi);omega
 ·exact qV a.cls (fun w=>w.length≤8) (by decide) fun i hi=>(qlO (ql.1 h6 i hi)).1
end RC
end
section
namespace AF
open Go
theorem Wk.moveCell{t:List AV}{h:List AObj}{i j a w v:Nat}{ty ty':TypeId}{ds cs:List AV}{sz off len:Nat}
  (hi:getO i h=some (.mem w ty' ds)) (ha:ds[a]? =some (.osl j v sz off len)) (hj:getO j h=some (.mem v ty cs)) (hne:i≠j):
  Wk t h t (setO i (setO j h (.emp (v+1))) (.mem w ty' (ds.set a (.osl h.length 1 sz off len)))++ [.mem 1 ty cs]):=by
 intro N W σ A H;obtain⟨p1,p2⟩:=H.hr.pushN 1;have hjl:=jp hj;have hil:=jp hi;have hj':getO j (h++ [.emp 0])=some (.mem v ty cs):=by rw[qbk hjl];exact hj
 have hg:getO h.length (h++ [AObj.emp 0])=some (.emp 0):=by unfold getO;rw[List.getElem?_append_right (nlr _),Nat.sub_self];rfl
 have hk':qH (h++ [.emp 0]) h.length=true:=by unfold qH;rw[hg]
 obtain⟨σ2,q1,q2,q3⟩:=HR.move (h:=h++ [.emp 0]) p1 hj' hk' (by omega);have e0:setO h.length (setO j (h++ [.emp 0]) (.emp (v+1))) (.mem (qr (getO h.length (h++ [.emp 0]))+1) ty cs)=setO j h (.emp (v+1))++ [.mem 1 ty cs]:=by
  rw[hg];unfold setO;rw[List.set_append_left _ _ hjl,List.set_append_right _ _ (by rw[List.length_set];exact nlr _),List.length_set,Nat.sub_self];rfl
 rw[e0]at q1;rw[hg]at q3;have ee:=p2.trans q2;have hiq:getO i (setO j h (.emp (v+1))++ [.mem 1 ty cs])=some (.mem w ty' ds):=by
  rw[qbk (by rw[qbo];exact hil),qb5 (by exact hne)];exact hi
 obtain⟨o,b,arr,o1,o2,o3,o4,o5,o6,o7,o8,o9⟩:=je q1 (qU hiq);obtain⟨o',b',arr',r1,r2,r3,r4,r5,r6,r7,r8,r9⟩:=je H.hr (qU hi);obtain⟨o2',s1,s2,s3⟩:=ee.obj i o' r1;rw[o1]at s1;cases s1;have eo:o=o':=s3 (o2.trans r2.symm);subst eo;rw[o4]at r4;cases r4;have earr:arr=arr':=by
  obtain⟨T,fz,_,x1⟩:=o5;obtain⟨T',fz',_,x2⟩:=r5;rw[x1]at x2;cases x2;rfl
 subst earr;have q:=q1.recell (cs':=ds.set a (.osl h.length 1 sz off len)) hiq o1 o4 o5 o6 (by simpa using o7) (fun n x hn hx=>o8 n x (by simpa using hn) hx) (fun n d x hd hx=>by
  rw[List.getElem?_set]at hd;split at hd
  ·rename_i e;subst e;split at hd
   ·cases hd;exact q3 sz off len x ((r9 a _ x ha hx).ext p2)
   ·cases hd
  ·exact o9 n d x hd hx)
 have e1:setO i (setO j h (.emp (v+1))++ [.mem 1 ty cs]) (.mem w ty' (ds.set a (.osl h.length 1 sz off len)))=setO i (setO j h (.emp (v+1))) (.mem w ty' (ds.set a (.osl h.length 1 sz off len)))++ [.mem 1 ty cs]:=by
  unfold setO;rw[List.set_append_left _ _ (by rw[List.length_set];exact hil)]
 rw[e1]at q;exact⟨σ2,⟨q,H.sz,fun n d x hd hx=>(H.tm n d x hd hx).ext ee,qaV ee H.df⟩,ee⟩
end AF
end
section
open Go Go.Proofs AF HY LN
namespace RC
def qaC(base:Nat)(L:List Rd):List AV:=(List.range L.length).flatMap fun j=> [strs (L.getD j default).words,.osl (base+j) (L.getD j default).src.length 1 0 (L.getD j default).src.length]
def qht(L:List Rd):List AObj:=L.map fun r=> .mem r.src.length 3 (qx r.src)
theorem qqd(L:List Rd):(qht L).length=L.length:=by simp[qht]
theorem qmO{L:List Rd}{j:Nat}(hj:j<L.length):(qht L)[j]? =some (.mem (L.getD j default).src.length 3 (qx (L.getD j default).src)):=by
 unfold qht;rw[List.getElem?_map,qY hj,gdqA,qY hj];rfl
theorem qqc(L M:List Rd):qht (L++M)=qht L++qht M:=by simp[qht]
theorem qqe{L:List Rd}{j:Nat}(r:Rd):(qht L).set j (.mem r.src.length 3 (qx r.src))=qht (L.set j r):=by
 unfold qht;rw[List.map_set]
theorem qdI{α:Type}(f g:Nat→List α): ∀n,(∀i,i<n→f i=g i)→(List.range n).flatMap f=(List.range n).flatMap g:=fun n h=>by
 rw[List.flatMap_def,List.flatMap_def];congr 1;exact List.map_congr_left fun i hi=>h i (List.mem_range.1 hi)
theorem qmN(base:Nat)(L:List Rd)(r:Rd):qaC base (L++ [r])=qaC base L++ [strs r.words,.osl (base+L.length) r.src.length 1 0 r.src.length]:=by
 unfold qaC;rw[List.length_append,List.length_singleton,List.range_succ,List.flatMap_append];congr 1
 ·refine qdI _ _ _ fun i hi=> ?_
  rw[gdqA,List.getElem?_append_left hi,←gdqA]
 ·simp
theorem qcy(base:Nat)(L:List Rd):(qaC base L).length=2*L.length:=by
 unfold qaC;generalize L.length=n;generalize hf:(fun j=> [strs (L.getD j default).words,AV.osl (base+j) (L.getD j default).src.length 1 0 (L.getD j default).src.length])=f;have h2: ∀j,(f j).length=2:=fun j=>by rw[←hf];rfl
 induction n with
 |zero=>rfl
 |succ n ih=>rw[List.range_succ,List.flatMap_append,List.length_append,ih];simp[h2];omega
theorem qdJ(base:Nat)(L:List Rd){k:Nat}(hk:k<L.length): ∃A B,A.length=2*k∧qaC base L=A++ [strs (L.getD k default).words,.osl (base+k) (L.getD k default).src.length 1 0 (L.getD k default).src.length]++B∧
  ∀s,qaC base (L.set k ⟨(L.getD k default).words,s⟩)=A++ [strs (L.getD k default).words,.osl (base+k) s.length 1 0 s.length]++B:=by
 have e:List.range L.length=List.range k++k::(List.range (L.length-(k+1))).map (fun i=>k+1+i):=by
  conv=>lhs;rw[show L.length=k+1+(L.length-(k+1)) by omega,List.range_add,List.range_succ,List.append_assoc]
  rfl
 refine⟨(List.range k).flatMap fun j=> [strs (L.getD j default).words,.osl (base+j) (L.getD j default).src.length 1 0 (L.getD j default).src.length],((List.range (L.length-(k+1))).map (fun i=>k+1+i)).flatMap fun j=> [strs (L.getD j default).words,.osl (base+j) (L.getD j default).src.length 1 0 (L.getD j default).src.length],?_,?_,fun s=> ?_⟩
 ·have h2: ∀(f:Nat→List AV),(∀j,(f j).length=2)→ ∀n,((List.range n).flatMap f).length=2*n:=fun f hf n=>by
   induction n with
   |zero=>rfl
   |succ n ih=>rw[List.range_succ,List.flatMap_append,List.length_append,ih];simp[hf];omega
  exact h2 _ (fun _=>rfl) _
 ·unfold qaC;rw[e,List.flatMap_append,List.flatMap_cons,List.append_assoc]
 ·unfold qaC;rw[List.length_set,e,List.flatMap_append,List.flatMap_cons,List.append_assoc];have g: ∀j,(L.set k ⟨(L.getD k default).words,s⟩).getD j default=if j=k then ⟨(L.getD k default).words,s⟩ else L.getD j default:=fun j=>jY hk
  congr 1
  ·refine qdI _ _ _ fun i hi=> ?_
   rw[g,ine (by omega)]
  ·rw[g,ipo rfl];show _::_::_=_::_::_;congr 2;rw[List.flatMap_def,List.flatMap_def,List.map_map,List.map_map];refine congrArg List.flatten (List.map_congr_left fun i _=> ?_);simp only[Function.comp];rw[g,ine (by omega)]
theorem qqb{base:Nat}{L:List Rd}{i:Nat}(hi:i<L.length):((qaC base L).drop (i*2)).take 2= [strs (L.getD i default).words,.osl (base+i) (L.getD i default).src.length 1 0 (L.getD i default).src.length]:=by
 obtain⟨A,B,h1,h2,_⟩:=qdJ base L hi;rw[h2,show i*2=A.length by omega,List.append_assoc,List.drop_append,Nat.sub_self];simp
theorem qpC{L:List Int}{n:Nat}{g:AV→AV}(hg: ∀x,g (.int .i64 x)= .int .i64 x)(hn:n=L.length):ILe (qeC (some (.mem n 3 (qx L))) n 1 0 n g) (qn L):=by
 subst hn;rw[slOf_mem,ipo ⟨rfl,by rw[qT];omega⟩];refine ILe.sl_eq fun i hi=> ?_
 simp only[Nat.zero_add,Nat.mul_one];have e:((qx L).drop i).take 1= [.int .i64 (L.getD i 0)]:=by
  rw[List.drop_eq_getElem_cons (by rw[qT];exact hi),List.take_succ_cons,List.take_zero];have h:=qe7 (C:=L) hi;rw[qY (by rw[qT];exact hi)]at h;rw[Option.some.inj h]
 rw[e,List.map_cons,List.map_nil,hg]
theorem qmQ{base v:Nat}{L:List Rd}{n:Nat}{fz:Nat→Bool}{H:List AObj}{d:Nat}(hn:n=L.length)(hf: ∀j,j<L.length→fz (base+j)=true)(hj: ∀j,j<L.length→getO (base+j) H=some (.mem (L.getD j default).src.length 3 (qx (L.getD j default).src))):
  VLe (qeC (some (zP v 89 (qaC base L))) v 2 0 n (rei fz H (d+2))) (jc L):=by
 subst hn
 by_cases h0:L= []
 ·subst h0;show VLe (qeC (some (.emp v)) v 2 0 0 _) _;rw[slOf_emp,ipo rfl];exact jX
 ·have e0:zP v 89 (qaC base L)= .mem v 89 (qaC base L):=jH (fun e=>h0 (by
   have:=qcy base L
   rw[e]at this
   exact List.eq_nil_of_length_eq_zero (by simp at this;omega)))
  rw[e0,slOf_mem,ipo ⟨rfl,by rw[qcy];omega⟩];refine VLe.sl (fun i hi=> ?_);simp only[Nat.zero_add];rw[qqb hi];refine⟨ILe.refl _,?_,trivial⟩;show ILe (rei fz H (d+1+1) (.osl (base+i) _ 1 0 _)) _;rw[rei_osl,ipo (hf i hi),hj i hi];exact qpC (fun _=>rfl) rfl
theorem qtp{A B:List AV}{a b c:AV}{n:Nat}(hn:n=A.length+1):List.take n (A++ [a,b]++B)++ [c]++List.drop (n+1) (A++ [a,b]++B)=A++ [a,c]++B:=by
 have e1:A++ [a,b]++B=(A++ [a])++(b::B):=by simp
 have e2:A++ [a,b]++B=(A++ [a]++ [b])++B:=by simp
 have h1:List.take n (A++ [a,b]++B)=A++ [a]:=by rw[e1];exact List.take_left' (by rw[List.length_append,List.length_singleton,hn])
 have h2:List.drop (n+1) (A++ [a,b]++B)=B:=by rw[e2];exact List.drop_left' (by rw[List.length_append,List.length_append,List.length_singleton,List.length_singleton,hn])
 rw[h1,h2];simp
theorem qfQ{hi:Int}: ∀ {S:List Int} {lo:Int},S.Pairwise (· < ·)→(∀x∈S,lo≤x∧x<hi)→S.length≤(hi-lo).toNat:=by
 intro S
 induction S with
 |nil=>intro lo _ _;exact nzl _
 |cons a S ih=>
  intro lo h1 h2;obtain⟨p1,p2⟩:=List.pairwise_cons.1 h1;have ha:=h2 a List.mem_cons_self
  have:=ih (lo:=a+1) p2 fun x hx=>⟨by have:=p1 x hx;omega,(h2 x (List.mem_cons_of_mem _ hx)).2⟩
  rw[List.length_cons];omega
theorem qBT{h M:List AObj}{a0 a1 a2 a3 a4 a5 a6 a7 a8:AObj}:(h++a0::a1::a2::a3::a4::a5::a6::a7::a8::M).length=h.length+9+M.length:=by
 simp only[List.length_append,List.length_cons];omega
theorem qe2{h M:List AObj}{a0 a1 a2 a3 a4 a5 a6 a7 a8:AObj}{j:Nat}:getO (h.length+9+j) (h++a0::a1::a2::a3::a4::a5::a6::a7::a8::M)=M[j]? :=by
 unfold getO;rw[List.getElem?_append_right (by omega),show h.length+9+j-h.length=j+9 by omega];rfl
theorem qz3{h M:List AObj}{a0 a1 a2 a3 a4 a5 a6 a7 a8 o:AObj}{j:Nat}:setO (h.length+9+j) (h++a0::a1::a2::a3::a4::a5::a6::a7::a8::M) o=h++a0::a1::a2::a3::a4::a5::a6::a7::a8::M.set j o:=by
 unfold setO;rw[List.set_append_right _ _ (by omega),show h.length+9+j-h.length=j+9 by omega];rfl
theorem qD1(x:Co)(f t:Nat)(h:List AObj)(ho:CoOk x)(ht:t≤x.col.length)(hn:x.col.length≤1000000000):ACalls Tryz.prog 232 [.agg (coC x),.int .i64 (f:Int),.int .i64 (t:Int)] h (jc (qhu x f t)) h:=by
 have zl: ∀g,valL g .len [strs x.sig]= .int .i64 x.sig.length:=fun _=>rfl
 have zo: ∀g,okL g .len [strs x.sig]=True:=fun _=>eqt trivial
 refine acO qyu ?_;simp (disch:=omega) only[qwV,coC,zl,zo,go_sem];refine qp (T:=fun i:Nat×Nat×AObj×AObj×AObj×AObj=>qQ 48 [(1,.int .i64 (f:Int)),(2,.int .i64 (t:Int)),(3,.op h.length 1 0),(7,.osl (h.length+2) i.2.1 2 0 (qcc x f (t-f) i.1).length),(13,.int .i64 x.sig.length),(14,.int .i64 i.1)])
  (H:=fun i=>h++ .mem 1 26 (coC x):: .emp 1::zP i.2.1 89 (qaC (h.length+9) (qcc x f (t-f) i.1))::i.2.2.1::i.2.2.2.1::i.2.2.2.2.1:: .emp 0::i.2.2.2.2.2:: .emp 0::qht (qcc x f (t-f) i.1))
  (inv:=fun i=>i.1≤x.sig.length∧qH [i.2.2.1] 0=true∧qH [i.2.2.2.1] 0=true∧qH [i.2.2.2.2.1] 0=true∧qH [i.2.2.2.2.2] 0=true) (m:=fun i=>x.sig.length-i.1) (0,1,.emp 0,.emp 0,.emp 0,.emp 0) ⟨nzl _,rfl,rfl,rfl,rfl⟩ (Wk.temps ?_) ?_
 ·(simp only[qcc,List.length_nil,go_sem,qi,qe,qa,qh];try (repeat' first|(with_reducible apply aiA)|(apply qg;omega)|(apply qf;rfl)|exact qj))
 rintro⟨s,v,O3,O4,O5,O7⟩ ⟨i1,j3,j4,j5,j7⟩ K hK;simp only at i1 j3 j4 j5 j7 hK;have j3': ∀m,qH (O3::m) 0=true:=fun _=>j3
 have j4': ∀m,qH (O4::m) 0=true:=fun _=>j4
 have j5': ∀m,qH (O5::m) 0=true:=fun _=>j5
 have j7': ∀m,qH (O7::m) 0=true:=fun _=>j7
 have hst:qcc x f (t-f) (s+1)=qfG (qcc x f (t-f) s) (rdG x s f (t-f)) s:=rfl;have hln:=qhw x f (t-f) s;have hsg:=ho.sg;obtain⟨L,hL⟩: ∃L,L=qcc x f (t-f) s:=⟨_,rfl⟩
 rw[←hL]at hst hln;have eL:=hL.symm
 by_cases hs:s<x.sig.length
 ·have k1:((s:Int)<x.sig.length)=True:=eqt (by omega);have c21:=fun h=>rdP x f t s h ho ht hs hn
  obtain⟨w,hw⟩: ∃w,w=rdG x s f (t-f):=⟨_,rfl⟩
  rw[←hw]at hst;simp only[←hw]at c21;unfold coC at c21;simp (disch:=omega) only[coC,k1,eL,go_sem]
  repeat' first
   |(refine cA (c21 _) flk ?_;simp (disch:=omega) only[j3',j4',go_sem])
  have hwl:w.length≤1000000000:=by have:=qek x s f (t-f);rw[←hw]at this;omega
  have hRd:=qel x f (t-f) s;rw[eL]at hRd;have hwL: ∀j,(L.getD j default).words.length≤1000000000:=qV L (fun r=>r.words.length≤1000000000) (by decide) fun j hj=>by
   have h1:=hRd.nn j hj;obtain⟨y,ys,e⟩:=List.exists_cons_of_ne_nil h1;have h2:=hRd.wd j hj y (by rw[e];exact List.mem_cons_self);rw[h2]
   have:=qek x y.toNat f (t-f)
   omega
  have hob:= @qmO L;refine cA (r:= .int .i64 (qjC L w)) ?c (by exact flk) ?_
  case c=>
   refine ACalls.borrow ((fdP L ⟨w,[(s:Int)]⟩ [] (by omega) hwl hwL).le ?v (qj)) rfl;simp only[List.map_cons,List.map_nil,go_sem];refine⟨qmQ rfl (fun _ _=>rfl) (fun j hj=>by rw[qe2];exact hob hj),VLe.agg ⟨qj,VLe.sl_eq rfl (fun i hi=> ?_),trivial⟩,qj,trivial⟩;obtain rfl:i=0:=by simpa using hi
   rfl
  have eKl:=qcy (h.length+9) L;rcases qbO L w with⟨k,b1,b2,b3⟩|⟨b1,b2⟩
  ·have q1:(qjC L w<0)=False:=eqf (by omega);have hst2:qcc x f (t-f) (s+1)=L.set k ⟨w,(L.getD k default).src++ [(s:Int)]⟩:=by
    rw[hst];unfold qfG;rw[b3,ine (by omega),Int.toNat_natCast]
   obtain⟨A,B,a1,a2,a3⟩:=qdJ (h.length+9) L b1;have a3:=a3 ((L.getD k default).src++ [(s:Int)]);have hne:(qaC (h.length+9) L≠ [])=True:=eqt fun e=>by rw[e]at eKl;simp at eKl;omega
   have hob:=hob b1;rw[b2]at a2 a3;have hos:= @qqe L k ⟨w,(L.getD k default).src++ [(s:Int)]⟩;rw[←hst2]at hos a3;dsimp only at hos;obtain⟨S,hS⟩: ∃S,S=(L.getD k default).src:=⟨_,rfl⟩
   rw[←hS]at a2 a3 hob hos;rw[List.length_append,List.length_singleton]at a3 hos;rw[jh,show qx [(s:Int)]= [AV.int .i64 (s:Int)]from rfl]at hos;have gg:(qaC (h.length+9) L)[k*2+1]? =some (.osl (h.length+9+k) S.length 1 0 S.length):=by
    rw[a2,List.append_assoc,List.getElem?_append_right (by omega),show k*2+1-A.length=1 by omega];rfl
   have gs:List.take (k*2+1) (qaC (h.length+9) L)++ [.osl (h.length+9+k) (S.length+1) 1 0 (S.length+1)]++List.drop (k*2+1+1) (qaC (h.length+9) L)=qaC (h.length+9) (qcc x f (t-f) (s+1)):=by
    rw[a2,a3];exact qtp (by omega)
   have eI:=qT S;have hSl:S.length≤1000:=by
    have:=(qem x f (t-f) s).src (L.getD k default) (by rw[eL,gdqA,qY b1];exact List.getElem_mem b1)
    have:=qfQ (hi:=(s:Int)) (lo:=0) this.1 this.2
    rw[←hS]at this;omega
   have eown:zP v 89 (qaC (h.length+9) L)= .mem v 89 (qaC (h.length+9) L):=jH (of_eq_true hne);have el2:(qcc x f (t-f) (s+1)).length=L.length:=by rw[hst2,List.length_set]
   have eown2:zP v 89 (qaC (h.length+9) (qcc x f (t-f) (s+1)))= .mem v 89 (qaC (h.length+9) (qcc x f (t-f) (s+1))):=jH fun e=>by
    have:=qcy (h.length+9) (qcc x f (t-f) (s+1))
    rw[e,el2]at this;simp at this;omega
   have eTi:List.take S.length (qx S)=qx S:=ltl (by omega);have kL:((k:Int)<L.length)=True:=eqt (by omega);have k0:(0≤(k:Int))=True:=eqt (by omega);rw[eown];simp (disch:=omega) only[b3,j7',gg,eKl,kL,k0,Option.getD_some,Option.isSome_some,qe2,qz3,hob,eTi,Nat.mul_one,Int.toNat_natCast,go_sem]
   repeat' first
    |with_reducible first|intro _|apply aiA
   all_goals try exact clz
   all_goals try (simp only[qlZ,qcM,qe2,hob,qix,qcL,if_true,Option.getD_some,eI,beq_self_eq_true];done)
   all_goals try (simp only[bne_iff_ne];omega)
   all_goals try (simp only[qcM,qe2,hob,qcL,if_true,Option.getD_some,eI];exact nlr _)
   rw[gs];have eD:(AV.int .i64 (s:Int)::List.drop 1 (zu [i6 0] 1))= [AV.int .i64 (s:Int)]:=rfl;simp only[eD];rw[hos];refine hK _ _ (s+1,v,.mem (qr (some O3)+1) 3 [.int .i64 (s:Int)],.mem (qr (some O4)+1) 89 [strs w,.osl (h.length+3) (qr (some O3)+1) 1 0 1],O5,.mem (qr (some O7)+1) 3 [.int .i64 (s:Int)]) ⟨hs,rfl,rfl,j5,rfl⟩ (by simp only;omega) ?_;simp only[eown2,el2,coC];refine Wk.temps ?_
   (simp only[go_sem,qi,qe,qa,qh];try (repeat' first|(with_reducible apply aiA)|(apply qg;omega)|(apply qf;rfl)|exact qj))
  ·have q1:(qjC L w<0)=True:=eqt b2;have hst2:qcc x f (t-f) (s+1)=L++ [⟨w,[(s:Int)]⟩]:=by
    rw[hst];unfold qfG;rw[ipo b2]
   have eTk:List.take (L.length*2) (qaC (h.length+9) L)=qaC (h.length+9) L:=ltl (by omega);simp (disch:=omega) only[q1,j5',eTk,eKl,Nat.mul_one,go_sem]
   repeat' first
    |with_reducible apply aiA
   all_goals try exact clz
   have el2:(qcc x f (t-f) (s+1)).length=L.length+1:=by rw[hst2,List.length_append];rfl
   have eo:qht (qcc x f (t-f) (s+1))=qht L++ [.mem 1 3 [.int .i64 (s:Int)]]:=by rw[hst2,qqc];rfl
   have ek:qaC (h.length+9) (qcc x f (t-f) (s+1))=qaC (h.length+9) L++ [strs w,.osl (h.length+9+L.length) 1 1 0 1]:=by rw[hst2,qmN];rfl
   have eown:zP (v+1) 89 (qaC (h.length+9) L++ [strs w,.osl (h.length+3) (qr (some O3)+1) 1 0 1])= .mem (v+1) 89 (qaC (h.length+9) L++ [strs w,.osl (h.length+3) (qr (some O3)+1) 1 0 1]):=jH (by simp);have eown2:zP (v+1) 89 (qaC (h.length+9) L++ [strs w,.osl (h.length+9+L.length) 1 1 0 1])= .mem (v+1) 89 (qaC (h.length+9) L++ [strs w,.osl (h.length+9+L.length) 1 1 0 1]):=jH (by simp);have eset:(qaC (h.length+9) L++ [strs w,AV.osl (h.length+3) (qr (some O3)+1) 1 0 1]).set (L.length*2+1) (.osl (h.length+9+L.length) 1 1 0 1)=qaC (h.length+9) L++ [strs w,.osl (h.length+9+L.length) 1 1 0 1]:=by
    rw[List.set_append_right _ _ (by omega),eKl,show L.length*2+1-2*L.length=1 by omega];rfl
   rw[eown];refine hK _ _ (s+1,v+1,.emp (qr (some O3)+1+1),.mem (qr (some O4)+1) 89 [strs w,.osl (h.length+3) (qr (some O3)+1) 1 0 1],.mem (qr (some O5)+1) 89 [strs w,.osl (h.length+3) (qr (some O3)+1) 1 0 1],O7) ⟨hs,rfl,rfl,rfl,j7⟩ (by simp only;omega)
    (Wk.trans (Wk.moveCell (i:=h.length+2) (j:=h.length+3) (a:=L.length*2+1) (w:=v+1) (v:=qr (some O3)+1) (ty:=3) (ty':=89) (ds:=qaC (h.length+9) L++ [strs w,.osl (h.length+3) (qr (some O3)+1) 1 0 1]) (cs:= [.int .i64 (s:Int)]) (sz:=1) (off:=0) (len:=1) ?m1 ?m2 ?m3 (by omega)) ?m4)
   case m1=>simp only[go_sem]
   case m2=>
    rw[List.getElem?_append_right (by omega),show L.length*2+1-(qaC (h.length+9) L).length=1 by omega];rfl
   case m3=>simp only[go_sem];rfl
   case m4=>
    have eD:(AV.int .i64 (s:Int)::List.drop 1 (zu [i6 0] 1))= [AV.int .i64 (s:Int)]:=rfl;have eD2: ∀c:AV,(strs w::c::List.drop 2 (zu [AV.nl,AV.nl] 1))= [strs w,c]:=fun _=>rfl
    simp only[eo,ek,eown2,el2,coC,eD,eD2,qBT,qqd,go_sem,eset,List.append_assoc,List.cons_append];refine Wk.temps ?_
    (simp only[go_sem,qi,qe,qa,qh];try (repeat' first|(with_reducible apply aiA)|(apply qg;omega)|(apply qf;rfl)|exact qj))
 ·have k1:((s:Int)<x.sig.length)=False:=eqf (by omega);obtain rfl:s=x.sig.length:=by omega
  have hF:qhu x f t=L:=by rw[hL];rfl
  rw[hF];simp (disch:=omega) only[k1,eL,go_sem]
  repeat' first
   |(apply qb;exact rvk;simp only[go_sem])
  exact qmQ rfl (fun j _=>dqt (by omega)) (fun j hj=>by rw[qe2];exact qmO hj)
theorem qDm(l:List Un)(f t:Nat)(k v k2 v2:Nat)(h:List AObj)(hk:getO k h=some (.mem v 3 [.int .i64 (f:Int)]))(hk2:getO k2 h=some (.mem v2 3 [.int .i64 (t:Int)]))(hn:l.length≤1000000000):
  ACalls Tryz.prog 54 [qO l,.fn (.func 234) [] [.op k v 0,.op k2 v2 0]] h (.bool (rnB l (f,t))) h:=by
 have hc:=qU hk;have hc2:=qU hk2;unfold qO rnB;refine qib qBw ⟨rfl,rfl⟩ ⟨rfl,rfl⟩ (qaO qrw l.length (fun j=>unC (l.getD j default)) (fun j=> .agg (unC (l.getD j default))) _ [] [.op k v 0,.op k2 v2 0] _ h (fun i _=>⟨rfl,by simp[zZ,unC],rfl,rfl,rfl⟩) (fun i _=> ?_) (by omega));refine ACalls.borrow ?_ rfl;have e:([AV.agg (unC (l.getD i default))]++ [AV.op k v 0,AV.op k2 v2 0]).map (rei (fun _=>true) h 8)= [.agg (unC (l.getD i default)),.ip [.int .i64 (f:Int)],.ip [.int .i64 (t:Int)]]:=by
  simp only[List.cons_append,List.nil_append,List.map_cons,List.map_nil,rei_op,if_true,hc,hc2,ipOf_some,List.drop_zero,rei_agg];rfl
 rw[List.nil_append,e];exact qD2 _ _ _ _
theorem qov(l:List Un)(i:Nat):beH l (i+1)=(l.getD i default).to:=by unfold beH;rw[ine (by omega),Nat.add_sub_cancel]
theorem que(u:Un)(n v:Nat)(ty:TypeId):qan n (.mem v ty (unC u)):=by
 intro c hc;simp only[unC,List.mem_cons,List.not_mem_nil,or_false]at hc;rcases hc with rfl|rfl|rfl<;>rfl
theorem quR(x:Co): ∀a∈rnX x,a.length=2:=by
 intro a ha;unfold rnX at ha;obtain⟨_,_,rfl⟩:=List.mem_map.1 ha;rfl
theorem qmV(x:Co):(rnX x).length=(qgi (cmB x) x.col.length).length:=by simp[rnX]
theorem quQ{x:Co}{i:Nat}(hi:i<(rnX x).length):(rnX x)[i]= [.int .i64 (((qgi (cmB x) x.col.length).getD i (0,0)).1:Int),.int .i64 (((qgi (cmB x) x.col.length).getD i (0,0)).2:Int)]:=by
 have h2:i<(qgi (cmB x) x.col.length).length:=by rw[←qmV];exact hi
 simp only[rnX,List.getElem_map];rw[gdqA,qY h2];rfl
theorem quI(x:Co)(f d:Nat)(hd:d≤1000000000)(s:Nat)(hs:s≤1000000000):qsi (qcc x f d s):=by
 have hI:=qem x f d s;have hH:=qel x f d s;have hl:=qhw x f d s;refine⟨by omega,?_,?_⟩
 ·exact qV _ (fun r:Rd=>r.src.length≤1000000000) (by decide) fun j hj=>by
   have:=hI.src ((qcc x f d s).getD j default) (by rw[gdqA,qY hj];exact List.getElem_mem hj)
   have:=qfQ (hi:=(s:Int)) (lo:=0) this.1 this.2
   omega
 ·exact qV _ (fun r:Rd=>r.words.length≤1000000000) (by decide) fun j hj=>by
   have h1:=hH.nn j hj;obtain⟨y,ys,e⟩:=List.exists_cons_of_ne_nil h1;have h2:=hH.wd j hj y (by rw[e];exact List.mem_cons_self);rw[h2]
   have:=qek x y.toNat f d
   omega
theorem qD3(x:Co)(l:List Un)(h:List AObj)(ho:CoOk x)(hn:x.col.length≤1000000000)(hu:qwi l):ACalls Tryz.prog 177 [.agg (coC x),qO l] h (.bool (rgB x l)) h:=by
 have hsg:=ho.sg;have hl:=hu.n;obtain⟨R,hR⟩: ∃R,R=rgB x l:=⟨_,rfl⟩
 rw[←hR];unfold rgB at hR;refine acO qyd ?_;simp (disch:=omega) only[qwH,coC,qO,go_sem]
 repeat' first
  |with_reducible apply aiA
 all_goals try exact clz
 refine qp (T:=fun i:Nat×AObj=>qQ 63 [(2,.op h.length 1 0),(3,.op (h.length+1) 1 0),(4,.op (h.length+2) 1 0),(5,.int .i64 (beH l i.1)),(10,qO l),(11,.int .i64 l.length),(12,.int .i64 i.1)])
  (H:=fun i=>h++ [.mem 1 26 (coC x),.mem 1 27 [qO l],.mem 1 4 [.bool false],i.2,.emp 0,.emp 0])
  (inv:=fun i=>i.1≤l.length∧qH [i.2] 0=true∧(∀n,qan n i.2)∧ ∀j,j<i.1→unB x (beH l j) (l.getD j default)=true) (m:=fun i=>l.length-i.1) (0,.emp 0) ⟨nzl _,rfl,fun _=>trivial,fun j hj=>absurd hj (nnz j)⟩ (Wk.temps ?_) ?_
 ·(simp only[qO,beH,go_sem,qi,qe,qa,qh];try (repeat' first|(with_reducible apply aiA)|(apply qg;omega)|(apply qf;rfl)|exact qj))
 rintro⟨i,O⟩ ⟨i1,i2,il,i3⟩ K hK;simp only at i1 i2 il i3 hK;have i2': ∀m,qH (O::m) 0=true:=fun _=>i2
 by_cases hi:i<l.length
 ·have k1:((i:Int)<l.length)=True:=eqt (by omega);have hno:unB x (beH l i) (l.getD i default)=false→R=false:=fun hx=>by
   rw[hR];unfold qnG;rw[qy.2 ⟨i,hi,by rw[hx];rfl⟩];rfl
  have hS:unB x (beH l i) (l.getD i default)=true→ ∀j,j<i+1→unB x (beH l j) (l.getD j default)=true:=fun hx j hj=>by
   by_cases e:j=i
   ·subst e;exact hx
   ·exact i3 j (by omega)
  have hbs:=qov l i;have zrd:qsi (l.getD i default).rds:=⟨hu.rd i,hu.sr i,hu.wd i⟩
  obtain⟨u,hux⟩: ∃u,u=l.getD i default:=⟨_,rfl⟩
  have eu:=hux.symm;rw[eu]at hno hS hbs zrd;obtain⟨b,hb⟩: ∃b,b=beH l i:=⟨_,rfl⟩
  have eb:=hb.symm;rw[eb]at hno hS;have hB:unB x b u= !(decide (u.frm≤b)||(decide (u.frm<0)||(decide (u.to≤u.frm)||(decide ((x.col.length:Int)<u.to)|| !decide (u.rds=qhu x u.frm.toNat u.to.toNat))))):=rfl
  by_cases g1:u.frm≤b
  ·have q1:(u.frm≤b)=True:=eqt g1;rw[hno (by rw[hB,dqt g1];rfl)];simp (disch:=omega) only[qO,unC,coC,qu,jc,k1,eu,eb,i2',q1,go_sem]
   repeat' first
    |(refine qk ( jc []) ?_;simp (disch:=omega) only[jc,go_sem])
    |(apply qb;exact rvk;simp only[go_sem];exact qj)
    |with_reducible apply aiA
   all_goals try exact clz
  have q1:(u.frm≤b)=False:=eqf g1
  by_cases g2:u.frm<0
  ·have q2:(u.frm<0)=True:=eqt g2;rw[hno (by rw[hB,dqt g2];simp)];simp (disch:=omega) only[qO,unC,coC,qu,jc,k1,eu,eb,i2',q1,q2,go_sem]
   repeat' first
    |(refine qk ( jc []) ?_;simp (disch:=omega) only[jc,go_sem])
    |(apply qb;exact rvk;simp only[go_sem];exact qj)
    |with_reducible apply aiA
   all_goals try exact clz
  have q2:(u.frm<0)=False:=eqf g2
  by_cases g3:u.to≤u.frm
  ·have q3:(u.to≤u.frm)=True:=eqt g3;rw[hno (by rw[hB,dqt g3];simp)];simp (disch:=omega) only[qO,unC,coC,qu,jc,k1,eu,eb,i2',q1,q2,q3,go_sem]
   repeat' first
    |(refine qk ( jc []) ?_;simp (disch:=omega) only[jc,go_sem])
    |(apply qb;exact rvk;simp only[go_sem];exact qj)
    |with_reducible apply aiA
   all_goals try exact clz
  have q3:(u.to≤u.frm)=False:=eqf g3
  by_cases g4:(x.col.length:Int)<u.to
  ·have q4:((x.col.length:Int)<u.to)=True:=eqt g4;rw[hno (by rw[hB,dqt g4];simp)];simp (disch:=omega) only[qO,unC,coC,qu,jc,k1,eu,eb,i2',q1,q2,q3,q4,go_sem]
   repeat' first
    |(refine qk ( jc []) ?_;simp (disch:=omega) only[jc,go_sem])
    |(apply qb;exact rvk;simp only[go_sem];exact qj)
    |with_reducible apply aiA
   all_goals try exact clz
  have q4:((x.col.length:Int)<u.to)=False:=eqf g4;obtain⟨f,hf⟩: ∃f:Nat,u.frm=(f:Int):=⟨u.frm.toNat,by omega⟩
  obtain⟨t,ht⟩: ∃t:Nat,u.to=(t:Int):=⟨u.to.toNat,by omega⟩
  have c48:=fun h=>qD1 x f t h ho (by omega) hn
  have zF:qsi (qhu x f t):=quI x f (t-f) (by omega) x.sig.length (by omega);have c49:=fun h=>qD6 u.rds (qhu x f t) h zrd zF
  have eft:qhu x u.frm.toNat u.to.toNat=qhu x f t:=by rw[hf,ht,Int.toNat_natCast,Int.toNat_natCast]
  rw[dqf g1,dqf g2,dqf g3,dqf g4,eft]at hB;obtain⟨F,hF⟩: ∃F,F=qhu x f t:=⟨_,rfl⟩
  rw[←hF]at hB;simp only[←hF]at c48 c49;obtain⟨c,hc⟩: ∃c,c=decide (u.rds=F):=⟨_,rfl⟩
  rw[←hc]at hB;simp only[←hc]at c49;rw[hf]at q1 q2 q3;rw[ht]at q3 q4;unfold coC qu at c48;unfold jc at c48 c49;cases c with
  |false=>
   rw[hno hB];simp (disch:=omega) only[qO,unC,coC,qu,jc,k1,eu,eb,i2',q1,q2,q3,q4,hf,ht,go_sem]
   repeat' first
    |((first|refine cG (fun e=>c48 _) ?_ ?_|refine cG (fun e=>c49 _) ?_ ?_);exact flk;simp (disch:=omega) only[go_sem])
    |(apply qb;exact rvk;simp only[go_sem];exact qj)
    |with_reducible apply aiA
   all_goals try exact clz
  |true=>
   simp (disch:=omega) only[qO,unC,coC,qu,jc,k1,eu,eb,i2',q1,q2,q3,q4,hf,ht,go_sem]
   repeat' first
    |((first|refine cG (fun e=>c48 _) ?_ ?_|refine cG (fun e=>c49 _) ?_ ?_);exact flk;simp (disch:=omega) only[go_sem])
    |with_reducible apply aiA
   all_goals try exact clz
   refine hK _ _ (i+1,.mem (qr (some O)+1) 83 (unC u)) ⟨hi,rfl,fun n=>que u n _ _,hS hB⟩ (by simp only;omega) ?_;simp only[hbs,ht,unC,hf];refine Wk.temps ?_
   (simp only[qO,go_sem,qi,qe,qa,qh];try (repeat' first|(with_reducible apply aiA)|(apply qg;omega)|(apply qf;rfl)|exact qj))
 have k1:((i:Int)<l.length)=False:=eqf (by omega);obtain rfl:i=l.length:=by omega
 have hun:qnG x l=true:=by
  unfold qnG;rw[ql.2 fun j hj=>by rw[i3 j hj];rfl];rfl
 rw[hun,Bool.true_and]at hR;have hcv:=qtt hun;clear hK;have c56:=fun h=>qD4 x h
 unfold coC qu at c56;simp (disch:=omega) only[coC,qu,k1,go_sem]
 repeat' first
  |(refine cA (c56 _) flk ?_;simp (disch:=omega) only[go_sem])
 obtain⟨rs,hrs⟩: ∃rs,rs=qgi (cmB x) x.col.length:=⟨_,rfl⟩
 have hrl:=qmV x;have hrg:=fun i hi=>quQ (x:=x) (i:=i) hi
 rw[←hrs]at hrl hcv;simp only[←hrs]at hrg;refine qa1 (xs:=rnX x) (itR x ho hn) (quR x)
  (S:=fun i hh=>(∃O8 O9,qH [O8] 0=true∧qH [O9] 0=true∧(∀n,qan n O8)∧(∀n,qan n O9)∧hh=h++ [.mem 1 26 (coC x),.mem 1 27 [qO l],.mem 1 4 [.bool false],O,O8,O9])∧ ∀j,j<i→rnB l (rs.getD j (0,0))=true)
  (E:=fun s hh=>s= .ret∧R=false∧ ∃O8 O9,(∀n,qan n O8)∧(∀n,qan n O9)∧hh=h++ [.mem 1 26 (coC x),.mem 1 27 [qO l],.mem 1 4 [.bool false],O,O8,O9]) ?_ ?_ ?_ ?_ ?_ ?_ ?_
 ·rintro i hh ⟨⟨O8,O9,_,_,l8,l9,rfl⟩,_⟩;refine LowI.app rfl (fun o ho=> ?_);simp only[List.mem_cons,List.not_mem_nil,or_false]at ho;rcases ho with rfl|rfl|rfl|rfl|rfl|rfl
  ·left;simp[coC,qu]
  ·left;simp
  ·left;simp
  ·left;simp
  ·right;exact⟨l8 _,l8 _⟩
  ·right;exact⟨l9 _,l9 _⟩
 ·rintro s hh ⟨_,_,O8,O9,l8,l9,rfl⟩;refine LowI.app rfl (fun o ho=> ?_);simp only[List.mem_cons,List.not_mem_nil,or_false]at ho;rcases ho with rfl|rfl|rfl|rfl|rfl|rfl
  ·left;simp[coC,qu]
  ·left;simp
  ·left;simp
  ·left;simp
  ·right;exact⟨l8 _,l8 _⟩
  ·right;exact⟨l9 _,l9 _⟩
 ·exact⟨⟨.emp 0,.emp 0,rfl,rfl,fun _=>trivial,fun _=>trivial,rfl⟩,fun j hj=>absurd hj (nnz j)⟩
 ·have lu: ∀n,jb n (qO l)=true:=fun _=>rfl
  have lt: ∀n,jb n (qt x.tok)=true:=fun _=>rfl
  simp[jb,jb.lowVs,lu,lt,qec]
  try omega
 ·rintro i hh tl LI TS hi ⟨⟨O8,O9,s8,s9,l8,l9,rfl⟩,hj⟩ hlen K K2 hK hN hR' hX;rw[hrg i hi];rw[hrl]at hi;obtain⟨⟨f,t⟩,hr⟩: ∃r,r=rs.getD i (0,0):=⟨_,rfl⟩
  have er:=hr.symm;rw[er];have s8': ∀m,qH (O8::m) 0=true:=fun _=>s8
  have s9': ∀m,qH (O9::m) 0=true:=fun _=>s9
  simp only[qco];simp (disch:=omega) only[List.append_assoc,coC,s8',s9',go_sem];refine hK _ _ (h++ [.mem 1 26 (coC x),.mem 1 27 [qO l],.mem 1 4 [.bool false],O,.mem (qr (some O8)+1) 3 [.int .i64 (f:Int)],.mem (qr (some O9)+1) 3 [.int .i64 (t:Int)]]) (by simp[coC]) (by simp) ?_;simp (disch:=omega) only[List.append_assoc,go_sem]
  repeat' first
   |with_reducible apply aiA
  all_goals try exact clz
  refine cA (qDm l f t (h.length+4) _ (h.length+5) _ _ ?ka ?kb hl) (by exact flk) ?_
  case ka=>simp only[go_sem]
  case kb=>simp only[go_sem]
  have l8': ∀n,qan n (.mem (qr (some O8)+1) 3 [.int .i64 (f:Int)]):=fun n c hc=>by simp at hc;subst hc;rfl
  have l9': ∀n,qan n (.mem (qr (some O9)+1) 3 [.int .i64 (t:Int)]):=fun n c hc=>by simp at hc;subst hc;rfl
  cases hb:rnB l (f,t)with
  |true=>
   simp (disch:=omega) only[go_sem];refine hN _ _ (h++ [.mem 1 26 (coC x),.mem 1 27 [qO l],.mem 1 4 [.bool false],O,.mem (qr (some O8)+1) 3 [.int .i64 (f:Int)],.mem (qr (some O9)+1) 3 [.int .i64 (t:Int)]]) (by simp[coC]) (by simp) ⟨⟨_,_,rfl,rfl,l8',l9',rfl⟩,fun j hj'=> ?_⟩
   by_cases e:j=i
   ·subst e;rw[er];exact hb
   ·exact hj j (by omega)
  |false=>
   have hRf:R=false:=by
    rw[hR];cases hc:cvA x l with
    |false=>rfl
    |true=>
     have h2:=List.all_eq_true.1 (hcv.2 hc) (f,t) (by rw[hr,gdqA,qY hi];exact List.getElem_mem hi);rw[hb]at h2;cases h2
   simp (disch:=omega) only[go_sem];refine hR' _ _ (h++ [.mem 1 26 (coC x),.mem 1 27 [qO l],.mem 1 4 [.bool false],O,.mem (qr (some O8)+1) 3 [.int .i64 (f:Int)],.mem (qr (some O9)+1) 3 [.int .i64 (t:Int)]]) (by simp[coC]) (by simp) ⟨rfl,hRf,_,_,l8',l9',rfl⟩
 ·rintro hh ⟨⟨O8,O9,s8,s9,l8,l9,rfl⟩,hj⟩;have hRt:R=true:=by
   rw[hR];refine hcv.1 (List.all_eq_true.2 fun r hr=> ?_);obtain⟨j,hj1,rfl⟩:=List.getElem_of_mem hr
   have:=hj j (by rw[hrl];exact hj1)
   rw[gdqA,qY hj1]at this;exact this
  rw[hRt];simp (disch:=omega) only[go_sem]
  repeat' first
   |(apply qb;exact rvk;simp only[go_sem];exact qj)
 ·rintro e hh ⟨rfl,hRf,O8,O9,l8,l9,rfl⟩;rw[hRf];simp (disch:=omega) only[go_sem]
  repeat' first
   |(apply qb;exact rvk;simp only[go_sem];exact qj)
theorem vaP(x:Co)(l:List Un)(h:List AObj)(hz:qv0 x)(hu:qwi l)(hp:qai SG h):ACalls Tryz.prog 111 [.agg (coC x),qO l] h (.int .i64 (vaE x l)) h:=by
 have c1:=fun l'=>coP x (h++l') hz (hp.app l')
 unfold vaE
 by_cases g:coE x=0
 case neg=>
  have k1:(coE x=0)=False:=eqf g;rw[ipo g];obtain⟨e,he⟩: ∃e,e=coE x:=⟨_,rfl⟩
  rw[←he]at c1 k1;unfold coC at c1;refine acO qrq ?_;simp (disch:=omega) only[qsB,coC,go_sem]
  repeat' first
   |(refine cA (c1 _) flk ?_;simp (disch:=omega) only[k1,go_sem])
   |(apply qb;exact rvk;simp only[go_sem];exact qj)
 rw[ine (fun hc=>hc g)];have c2:=fun h=>qD3 x l h (qgX g) hz.cl hu
 rw[g]at c1;unfold coC at c1 c2;cases g2:rgB x l<;>rw[g2]at c2
 all_goals
  refine acO qrq ?_;simp (disch:=omega) only[qsB,coC,go_sem]
  repeat' first
   |((first|refine cA (c1 _) ?_ ?_|refine cA (c2 _) ?_ ?_);exact flk;simp (disch:=omega) only[go_sem])
   |(apply qb;exact rvk;simp only[go_sem];exact qj)
end RC
end
section
open Go Go.Proofs AF
def qt6:List Nat:= [1000072,1000073,1000075,1000076,1000077,1000078,1000079]
def qA3:C:=
 ((C.ops [O1 3 (.box 0 26) 0,MC 6 (i6 0)]).seq (((C.ops [O1 18 (.load (some 4)) 3,MV 19 1,O2 20 (.call 111 true) 18 19,MV 7 20]).seq ((C.ops [MV 21 7,BC 22 .neq 21 (i6 0)]).seq
 (C.cond (.t 22) ((C.ops [MV 23 7,MV 6 23]).seq C.ret) C.skip))).seq ((C.ops [O1 24 (.fldA 3) 3,LD 25 24,O1 26 .len 25,⟨some 27,none,.mkslc 1 1 3 [i6 0] 8,[.t 26,.t 26]⟩,MV
 8 27]).seq ((C.ops [⟨some 9,none,.alloc 2 64 [.str [],i6 0,i6 0,i6 0,.bool false,.bool false,.str []],[]⟩]).seq (((C.ops [MV 28 2,O1 29 .len 28,MC 30 (i6 0)]).seq
 (C.block 0 ((C.ops [BI 31 .lss 30 29]).seq ((C.cond (.t 31) C.skip (C.exit 0)).seq ((C.block 1 ((C.ops [MV 32 30,O2 33 (.idxA 7) 28 30,O1 34 (.load (some 7)) 33,⟨some 11,none,
 .alloc 3 64 [.str [],i6 0,i6 0,i6 0,.bool false,.bool false,.str []],[]⟩,MV 10 32,ST 7 11 34]).seq (((C.ops [O1 35 (.load (some 4)) 3,MV 36 1,O1 37 (.load (some 7)) 11,
 O1 38 (.load (some 7)) 9,MV 39 10,BC 40 .eql 39 (i6 0),ON 41 (.call 112 true) [.t 35,.t 36,.t 37,.t 38,.t 40],MV 12 41]).seq ((C.ops [MV 42 12,BC 43 .neq 42 (i6 0)]).seq
 (C.cond (.t 43) ((C.ops [MV 44 12,MV 6 44]).seq C.ret) C.skip))).seq ((C.ops [O1 45 (.load (some 7)) 11,ST 7 9 45]).seq (C.ops [MV 46 8,O1 47 (.fldA 1) 11,LD 48 47,O2 49
 (.idxA 1) 46 48,LD 50 49,BC 51 .add 50 (i6 1),O2 52 (.idxA 1) 46 48,ST 1 52 51]))))).seq (C.ops [BC 53 .add 30 (i6 1),MV 30 53])))).loop)).seq (((C.ops [O1 54 (.fldA 3) 3,LD
 55 54,O1 56 .len 55,MC 57 (i6 0)]).seq (C.block 2 ((C.ops [BI 58 .lss 57 56]).seq ((C.cond (.t 58) C.skip (C.exit 2)).seq ((C.block 3 ((C.ops [MV 59 57,O2 60 (.idxA 1) 55 57,LD
 61 60,⟨some 13,none,.alloc 4 3 [i6 0],[]⟩,ST 1 13 59,MV 14 61]).seq (((C.ops [MV 63 1,LD 64 13,O2 65 (.call 113 true) 63 64,MV 62 65,O1 66 (.ext 0) 62,O1 67 (.ext 1) 62,
 MV 15 66,MV 16 67]).seq ((C.ops [MV 68 15,BC 69 .geq 68 (i6 0)]).seq (C.cond (.t 69) (C.exit 3) C.skip))).seq ((C.draw (DT.one ⟨some 74,none,.mv,[.t 14]⟩ (DT.one ⟨some 75,
 none,.idxI 1,[.t 74,.c (i6 0)]⟩ (DT.one ⟨some 76,none,.loadI none,[.t 75]⟩ ((DT.one ⟨some 70,none,.fldA 2,[.t 3]⟩ ((DT.one ⟨some 71,none,.load none,[.t 70]⟩ (DT.one
 ⟨some 72,none,.idxI 1,[.t 71,.c (i6 0)]⟩ (DT.one ⟨some 73,none,.loadI none,[.t 72]⟩ (DT.one ⟨some 77,none,.idxI 6,[.t 73,.t 76]⟩ (DT.one ⟨some 78,none,.fldI 0,[.t
 77]⟩ (DT.one ⟨some 79,none,.loadI none,[.t 78]⟩ (DT.one ⟨some 17,none,.alloc 5 9 [.str []],[]⟩ (DT.one ⟨none,none,.store 1,[.t 17,.t 79]⟩ DT.nil)))))))).two (DT.one ⟨some
 17,none,.alloc 5 9 [.str []],[]⟩ (DT.one ⟨some 71,none,.load none,[.t 70]⟩ (DT.one ⟨some 72,none,.idxI 1,[.t 71,.c (i6 0)]⟩ (DT.one ⟨some 73,none,.loadI none,[.t 72]⟩
 (DT.one ⟨some 77,none,.idxI 6,[.t 73,.t 76]⟩ (DT.one ⟨some 78,none,.fldI 0,[.t 77]⟩ (DT.one ⟨some 79,none,.loadI none,[.t 78]⟩ (DT.one ⟨none,none,.store 1,[.t 17,.t
 79]⟩ DT.nil)))))))))).two (DT.one ⟨some 17,none,.alloc 5 9 [.str []],[]⟩ (DT.one ⟨some 70,none,.fldA 2,[.t 3]⟩ (DT.one ⟨some 71,none,.load none,[.t 70]⟩ (DT.one ⟨some 72,
 none,.idxI 1,[.t 71,.c (i6 0)]⟩ (DT.one ⟨some 73,none,.loadI none,[.t 72]⟩ (DT.one ⟨some 77,none,.idxI 6,[.t 73,.t 76]⟩ (DT.one ⟨some 78,none,.fldI 0,[.t 77]⟩ (DT.one
 ⟨some 79,none,.loadI none,[.t 78]⟩ (DT.one ⟨none,none,.store 1,[.t 17,.t 79]⟩ DT.nil)))))))))))))).seq ((C.ops [MV 80 8,LD 81 13,O2 82 (.idxA 1) 80 81,LD 83 82,BC 84
 .neq 83 (i6 1),MV 85 84,MG 86 85 false 2,P2 87 85 false (.mkfn (Fn.func 114) 0) 13 17,P2 88 85 false (.call 92 true) 86 87,P1 89 85 false (.un UnOp.not) 88,PT 90 85 89]).seq
 (C.cond (.t 90) ((C.ops [MC 6 (i6 9)]).seq C.ret) C.skip)))))).seq (C.ops [BC 91 .add 57 (i6 1),MV 57 91])))).loop)).seq ((C.ops [MC 6 (i6 0)]).seq
 C.ret)))))))
theorem qy0:qE Tryz.prog 38 92 6 [RV.tmp 6] qA3:=fi Tryz.f38 [3,27,9,11,13,17] qt6 []
end
section
open Go Go.Proofs AF HY LN
namespace RC
theorem pc1(w:Wd)(c:Int)(s:Str)(h:List AObj):ACalls Tryz.prog 114 [.agg (wdC w),.ip [.int .i64 c],.ip [.str s]] h (.bool (decide (w.col=c)&&decide (w.text=s))) h:=by
 by_cases g:w.col=c
 ·have k1:(w.col=c)=True:=eqt g;rw[dqt g,Bool.true_and];refine acO qrs ?_;simp (disch:=omega) only[qsD,wdC,k1,go_sem]
  repeat' first
   |(apply qb;exact rvk;simp only[go_sem];exact qj)
   |with_reducible apply aiA
  all_goals try exact clz
 ·have k1:(w.col=c)=False:=eqf g;rw[dqf g,Bool.false_and];refine acO qrs ?_;simp (disch:=omega) only[qsD,wdC,k1,go_sem]
  repeat' first
   |(apply qb;exact rvk;simp only[go_sem];exact qj)
   |with_reducible apply aiA
  all_goals try exact clz
theorem qDl(b:List Wd)(c:Int)(s:Str)(k v k2 v2:Nat)(h:List AObj)(hk:getO k h=some (.mem v 3 [.int .i64 c]))(hk2:getO k2 h=some (.mem v2 9 [.str s]))(hn:b.length≤1000000000):
  ACalls Tryz.prog 92 [zc b,.fn (.func 114) [] [.op k v 0,.op k2 v2 0]] h (.bool (qZ (fun i=>decide ((b.getD i default).col=c)&&decide ((b.getD i default).text=s)) b.length)) h:=by
 have hc:=qU hk;have hc2:=qU hk2;unfold zc;refine qib qpq ⟨rfl,rfl⟩ ⟨rfl,rfl⟩ (qaO qg6 b.length (fun j=>wdC (b.getD j default)) (fun j=> .agg (wdC (b.getD j default))) _ [] [.op k v 0,.op k2 v2 0] _ h (fun i _=>⟨rfl,by simp[zZ,wdC],rfl,rfl,rfl⟩) (fun i _=> ?_) (by omega));refine ACalls.borrow ?_ rfl;have e:([AV.agg (wdC (b.getD i default))]++ [AV.op k v 0,AV.op k2 v2 0]).map (rei (fun _=>true) h 8)= [.agg (wdC (b.getD i default)),.ip [.int .i64 c],.ip [.str s]]:=by
  simp only[List.cons_append,List.nil_append,List.map_cons,List.map_nil,rei_op,if_true,hc,hc2,ipOf_some,List.drop_zero,rei_agg];rfl
 rw[List.nil_append,e];exact pc1 _ c s _
theorem qvs{x:Co}{l:List Un}{w bef:Wd}{first:Bool}(h:wdE x l w bef first=0):0≤w.col∧w.col<x.col.length:=by
 unfold wdE at h;split at h
 ·cases h
 split at h
 ·cases h
 ·omega
theorem quw{x:Co}{l:List Un}(ho:CoOk x)(hv:cvA x l=true){c:Nat}(hc:c<x.col.length)(hf:fnU l c<0):0≤(x.col.getD c []).getD 0 0∧(x.col.getD c []).getD 0 0<((x.tok.getD 0 []).length:Int):=by
 unfold cvA at hv;rw[Bool.not_eq_true',ql]at hv;have h1:=hv c hc;have h2:cvB l c=false:=by
  cases e:cvB l c with
  |false=>rfl
  |true=>
   unfold cvB at e;obtain⟨i,hi,hp⟩:=qy.1 e;rw[Bool.and_eq_true,decide_eq_true_iff,decide_eq_true_iff]at hp;exact absurd hp (qrP hf hi)
 rw[h2,Bool.not_false,Bool.true_and,Bool.not_eq_false']at h1;unfold cmB at h1;rw[Bool.not_eq_true',ql]at h1;have h3:=h1 0 ho.sg.1;rw[Bool.or_eq_false_iff]at h3;have h4:clT x c 0≠none:=of_decide_eq_false h3.1;unfold clT at h4;split at h4
 ·exact absurd rfl h4
 ·rename_i g;rcases ho.ce c hc 0 ho.sg.1 with e|⟨_,e⟩
  ·omega
  ·exact⟨by omega,e⟩
def cwA(b:List Wd)(i k:Nat):AV:= .int .i64 (cW b (k:Int) i:Int)
theorem qA8(b:List Wd)(c:Int): ∀i,cW b c i≤i:=by
 intro i
 induction i with
 |zero=>exact nlr _
 |succ i ih=>unfold cW;split<;>omega
theorem qo0{b:List Wd}{i u n:Nat}(hu:u<n)(h:(b.getD i default).col=(u:Int)):List.take u (gC (cwA b i) n)++ [.int .i64 ((cW b (u:Int) i:Int)+1)]++List.drop (u+1) (gC (cwA b i) n)=gC (cwA b (i+1)) n:=by
 rw[qrS _ hu];refine qaI fun k hk=> ?_
 unfold cwA;have e:cW b (k:Int) (i+1)=cW b (k:Int) i+if (b.getD i default).col=(k:Int) then 1 else 0:=rfl
 rw[e]
 by_cases g:k=u
 ·subst g;rw[ipo rfl,ipo h];rfl
 ·rw[ine g,ine (by rw[h];omega)];rfl
theorem pvP(x:Co)(l:List Un)(b:List Wd)(h:List AObj)(hz:qv0 x)(hu:qwi l)(hb:b.length≤1000000000)(ht: ∀i,(b.getD i default).text.length≤1000000000)(hp:qai SG h):
  ACalls Tryz.prog 38 [.agg (coC x),qO l,zc b] h (.int .i64 (pvE x l b)) h:=by
 have c1:=fun l'=>vaP x l (h++l') hz hu (hp.app l')
 obtain⟨R,hR⟩: ∃R,R=pvE x l b:=⟨_,rfl⟩
 rw[←hR];unfold pvE at hR
 by_cases g:vaE x l=0
 case neg=>
  have k1:(vaE x l=0)=False:=eqf g;rw[ipo g]at hR;rw[hR];obtain⟨e,he⟩: ∃e,e=vaE x l:=⟨_,rfl⟩
  rw[←he]at c1 k1 ⊢;unfold coC at c1;refine acO qy0 ?_;simp (disch:=omega) only[qA3,coC,go_sem]
  repeat' first
   |(refine cA (c1 _) flk ?_;simp (disch:=omega) only[k1,go_sem])
   |(apply qb;exact rvk;simp only[go_sem];exact qj)
 rw[ine (fun hc=>hc g)]at hR;rw[g]at c1;unfold coC qu at c1;have hv:coE x=0∧qnG x l=true∧cvA x l=true:=by
  unfold vaE at g;split at g
  ·cases g
  rename_i g1;split at g
  ·cases g
  rename_i g2;have g2:rgB x l=true:=by simpa using g2
  unfold rgB at g2;rw[Bool.and_eq_true]at g2;exact⟨Classical.not_not.1 g1,g2⟩
 have ho:=qgX hv.1;have hcl:=hz.cl;have k0:(0≤(x.col.length:Int))=True:=eqt (by omega);have k1:((x.col.length:Int)≤9223372036854775807)=True:=eqt (by omega);refine acO qy0 ?_;simp (disch:=omega) only[qA3,coC,qu,zc,go_sem]
 repeat' first
  |(refine cA (c1 _) flk ?_;simp (disch:=omega) only[k0,go_sem])
  |with_reducible apply aiA
 all_goals try exact clz
 all_goals try rw[Int.toNat_natCast]
 rw[qlJ];have e0:gC (fun _=>AV.int .i64 0) x.col.length=gC (cwA b 0) x.col.length:=qaI fun k _=>rfl
 rw[e0];refine qp (T:=fun i:Nat×Nat×AObj=>qQ 92 [(1,qO l),(2,zc b),(3,.op h.length 1 0),(8,.osl (h.length+1) 1 1 0 x.col.length),(9,.op (h.length+2) i.2.1 0),(28,zc b),(29,.int .i64 b.length),(30,.int .i64 i.1)])
  (H:=fun i=>h++ [.mem 1 26 (coC x),.mem 1 3 (gC (cwA b i.1) x.col.length),.mem i.2.1 64 (wdC (qjJ b i.1)),i.2.2,.emp 0,.emp 0])
  (inv:=fun i=>i.1≤b.length∧qH [i.2.2] 0=true∧ ∀j,j<i.1→qog x l b j=0) (m:=fun i=>b.length-i.1) (0,1,.emp 0) ⟨nzl _,rfl,fun j hj=>absurd hj (nnz j)⟩ (Wk.temps ?_) ?_
 ·(simp only[zc,qO,go_sem,qi,qe,qa,qh];try (repeat' first|(with_reducible apply aiA)|(apply qg;omega)|(apply qf;rfl)|exact qj))
 rintro⟨i,v,O⟩ ⟨i1,i2,i3⟩ K hK;simp only at i1 i2 i3 hK;have i2': ∀m,qH (O::m) 0=true:=fun _=>i2
 by_cases hi:i<b.length
 ·have k2:((i:Int)<b.length)=True:=eqt (by omega);have hE:=zC (f:=qog x l b) hi i3;have hS:qog x l b i=0→ ∀j,j<i+1→qog x l b j=0:=fun hx j hj=>by
   by_cases e:j=i
   ·subst e;exact hx
   ·exact i3 j (by omega)
  have c2:=fun h=>qEs x l (b.getD i default) (qjJ b i) (decide (i=0)) h hu.n hcl (ht i)
  have hw:qog x l b i=wdE x l (b.getD i default) (qjJ b i) (decide (i=0)):=rfl;have hrg:= @qvs x l (b.getD i default) (qjJ b i) (decide (i=0));have hbn:qjJ b (i+1)=b.getD i default:=by unfold qjJ;rw[ine (by omega),Nat.add_sub_cancel]
  have hcs:=fun u=> @qo0 b i u x.col.length
  have hle:=fun c=>qA8 b c i
  have ei:decide ((i:Int)=0)=decide (i=0):=decide_eq_decide.2 (by omega);obtain⟨w,hwx⟩: ∃w,w=b.getD i default:=⟨_,rfl⟩
  have ew:=hwx.symm;obtain⟨w0,hw0⟩: ∃w0,w0=qjJ b i:=⟨_,rfl⟩
  have ew0:=hw0.symm;simp only[ew]at c2 hw hrg hbn hcs;simp only[ew0]at c2 hw hrg;rw[←hw]at hrg;simp only[←hw]at c2;obtain⟨e,he⟩: ∃e,e=qog x l b i:=⟨_,rfl⟩
  rw[←he]at hE hS hrg;simp only[←he]at c2;obtain⟨fb,hfb⟩: ∃fb,fb=decide (i=0):=⟨_,rfl⟩
  rw[←hfb]at ei;simp only[←hfb]at c2;unfold coC qu wdC at c2
  by_cases g1:e=0
  case neg=>
   have k3:(e=0)=False:=eqf g1;have hV:R=e:=by rw[hR,ipo (by rw[hE g1];exact g1),hE g1]
   rw[hV];simp (disch:=omega) only[coC,qu,zc,wdC,k2,ew,ew0,ei,i2',go_sem]
   repeat' first
    |(refine cA (c2 _) flk ?_;simp (disch:=omega) only[k3,go_sem])
    |(apply qb;exact rvk;simp only[go_sem];exact qj)
    |with_reducible apply aiA
   all_goals try exact clz
  have k3:(e=0)=True:=eqt g1;obtain⟨r1,r2⟩:=hrg g1;obtain⟨u,hu'⟩: ∃u:Nat,w.col=(u:Int):=⟨w.col.toNat,by omega⟩
  simp only[hu']at c2;have un:u<x.col.length:=by omega
  have t2:(0≤(u:Int))=True:=eqt (by omega);have t3:((u:Int)<x.col.length)=True:=eqt (by omega);have t4:(u<x.col.length)=True:=eqt un;have t5:(u+1≤x.col.length)=True:=eqt un;have gl:=qax (cwA b i) x.col.length;have gg:=qcU (g:=cwA b i) un;have hst:=hcs u un hu';have hle:=hle (u:Int);have hcw:cwA b i u= .int .i64 (cW b (u:Int) i:Int):=rfl;rw[hcw]at gg;obtain⟨q,hq⟩: ∃q,q=cW b (u:Int) i:=⟨_,rfl⟩
  rw[←hq]at gg hst hle;have b2:((q:Int)+1≤9223372036854775807)=True:=eqt (by omega);have b3:(-9223372036854775808≤(q:Int)+1)=True:=eqt (by omega);simp (disch:=omega) only[coC,qu,zc,wdC,k2,ew,ew0,ei,i2',hu',Nat.zero_add,Option.isSome_some,go_sem]
  repeat' first
   |(refine cA (c2 _) flk ?_;simp (disch:=omega) only[k3,t2,t3,t4,t5,gl,gg,hst,Nat.mul_one,Nat.zero_add,Option.isSome_some,go_sem])
   |with_reducible apply aiA
  all_goals try exact clz
  try rw[hst]
  refine hK _ _ (i+1,v,.mem (qr (some O)+1) 64 (wdC w)) ⟨hi,rfl,hS g1⟩ (by simp only;omega) ?_;simp only[hbn,wdC,hu'];refine Wk.temps ?_
  (simp only[zc,qO,go_sem,qi,qe,qa,qh];try (repeat' first|(with_reducible apply aiA)|(apply qg;omega)|(apply qf;rfl)|exact qj))
 have k2:((i:Int)<b.length)=False:=eqf (by omega);obtain rfl:i=b.length:=by omega
 have hn0:=qI (f:=qog x l b) (fun j (hj:j<b.length)=>i3 j hj);rw[ine (fun hc=>hc hn0)]at hR;clear hK;obtain⟨w0,hw0⟩: ∃w0,w0=qjJ b b.length:=⟨_,rfl⟩
 have ew0:=hw0.symm;rw[ew0];simp (disch:=omega) only[coC,qu,zc,k2,i2',go_sem]
 repeat' first
  |with_reducible apply aiA
 all_goals try exact clz
 obtain⟨cb,hcb⟩: ∃f:Nat→Int,f=qBc x l b:=⟨_,rfl⟩
 rw[←hcb]at hR;have z0:((0:Nat):Int)=0:=rfl;have hto:0<x.tok.length:=by have:=ho.tn;have:=ho.sg;omega
 refine qp (T:=fun i:Nat×AObj×AObj=>qQ 92 [(1,qO l),(2,zc b),(3,.op h.length 1 0),(8,.osl (h.length+1) 1 1 0 x.col.length),(55,qu x.col),(56,.int .i64 x.col.length),(57,.int .i64 i.1)])
  (H:=fun i=>h++ [.mem 1 26 (coC x),.mem 1 3 (gC (cwA b b.length) x.col.length),.mem v 64 (wdC w0),O,i.2.1,i.2.2])
  (inv:=fun i=>i.1≤x.col.length∧qH [i.2.1] 0=true∧qH [i.2.2] 0=true∧ ∀j,j<i.1→cb j=0) (m:=fun i=>x.col.length-i.1) (0,.emp 0,.emp 0) ⟨nzl _,rfl,rfl,fun j hj=>absurd hj (nnz j)⟩ (Wk.temps ?_) ?_
 ·(simp only[zc,qO,qu,go_sem,qi,qe,qa,qh];try (repeat' first|(with_reducible apply aiA)|(apply qg;omega)|(apply qf;rfl)|exact qj))
 rintro⟨i,O1,O2⟩ ⟨i1,j1,j2,j3⟩ K hK;simp only at i1 j1 j2 j3 hK;have j1': ∀m,qH (O1::m) 0=true:=fun _=>j1
 have j2': ∀m,qH (O2::m) 0=true:=fun _=>j2
 by_cases hi:i<x.col.length
 ·have k3:((i:Int)<x.col.length)=True:=eqt (by omega);have t2:(0≤(i:Int))=True:=eqt (by omega);have hE:=zC (f:=cb) hi j3;have hS:cb i=0→ ∀j,j<i+1→cb j=0:=fun hx j hj=>by
   by_cases e:j=i
   ·subst e;exact hx
   ·exact j3 j (by omega)
  have hci:cb i=if 0≤fnU l (i:Int) then 0 else if ccB x b i=true then 0 else 9:=by rw[hcb];rfl
  have hcc:ccB x b i=(decide (cW b (i:Int) b.length=1)&&qZ (fun j=>decide ((b.getD j default).col=(i:Int))&&decide ((b.getD j default).text=txA x i)) b.length):=rfl;have hto2:= @quw x l ho hv.2.2 i hi;have eF:fnR l (i:Int)=fnU l (i:Int):=ine (by omega);have eE:fnE (i:Int)=0:=ine (by omega);have c3:=fun h=>qCY l (i:Int) h hu.n
  simp only[eF,eE]at c3;have htx:txA x i=((x.tok.getD 0 []).getD ((x.col.getD i []).getD 0 0).toNat default).text:=rfl;have hcl0:=ho.cl i hi;obtain⟨c,hcx⟩: ∃c,c=x.col.getD i []:=⟨_,rfl⟩
  have ec:=hcx.symm;rw[ec]at hto2 htx hcl0;obtain⟨t,htt⟩: ∃t,t=c.getD 0 0:=⟨_,rfl⟩
  have et:=htt.symm;rw[et]at hto2 htx;obtain⟨tk,htk⟩: ∃tk,tk=x.tok.getD 0 []:=⟨_,rfl⟩
  have etk:=htk.symm;rw[etk]at hto2 htx;obtain⟨p,hpx⟩: ∃p,p=fnU l (i:Int):=⟨_,rfl⟩
  rw[←hpx]at hci hto2;simp only[←hpx]at c3;unfold qO at c3
  by_cases g1:0≤p
  ·have k4:(0≤p)=True:=eqt g1;rw[ipo g1]at hci;simp (disch:=omega) only[coC,qu,qO,qn,k3,ec,j1',go_sem]
   repeat' first
    |(refine cA (c3 _) flk ?_;simp (disch:=omega) only[k4,go_sem])
    |with_reducible apply aiA
   all_goals try exact clz
   refine hK _ _ (i+1,.mem (qr (some O1)+1) 3 [.int .i64 (i:Int)],O2) ⟨hi,rfl,j2,hS hci⟩ (by simp only;omega) (Wk.temps ?_)
   (simp only[zc,qO,qu,go_sem,qi,qe,qa,qh];try (repeat' first|(with_reducible apply aiA)|(apply qg;omega)|(apply qf;rfl)|exact qj))
  have k4:(0≤p)=False:=eqf g1;rw[ine g1]at hci;obtain⟨o1,o2⟩:=hto2 (by omega);have k5:(0≤t)=True:=eqt o1;have k6:(t<tk.length)=True:=eqt o2;have k7:((0:Int)<c.length)=True:=eqt (by have:=ho.sg;omega);have k8:((0:Int)<x.tok.length)=True:=eqt (by omega);obtain⟨tt,htt2⟩: ∃tt,tt=tk.getD t.toNat default:=⟨_,rfl⟩
  have ett:=htt2.symm;rw[ett]at htx;rw[htx]at hcc;have gl:=qax (cwA b b.length) x.col.length;have gg:=qcU (g:=cwA b b.length) hi;have hcw:cwA b b.length i= .int .i64 (cW b (i:Int) b.length:Int):=rfl;rw[hcw]at gg;have t4:(i<x.col.length)=True:=eqt hi;have t5:(i+1≤x.col.length)=True:=eqt hi;obtain⟨q,hq⟩: ∃q,q=cW b (i:Int) b.length:=⟨_,rfl⟩
  rw[←hq]at gg hcc;have c4:=fun v v2 H hk hk2=>qDl b (i:Int) tt.text (h.length+4) v (h.length+5) v2 H hk hk2 hb
  simp (disch:=omega) only[coC,qu,qO,qn,k3,ec,j1',go_sem]
  repeat' first
   |(refine cA (c3 _) flk ?_;simp (disch:=omega) only[k4,go_sem])
   |with_reducible apply aiA
  all_goals try exact clz
  refine qtv ?T ?H ?h1 ?h2
  case h1=>
   simp (disch:=omega) only[qt,jS,tkC,k5,k6,k7,k8,et,etk,ett,j2',Int.toNat_zero,go_sem]
   repeat' first
    |with_reducible apply aiA
   all_goals first
    |omega
    |rfl
  case h2=>
  by_cases g2:q=1
  case neg=>
   have k9:((q:Int)=1)=False:=eqf (by omega);rw[dqf g2,Bool.false_and]at hcc;rw[hcc,ine (by simp)]at hci;have hV:R=9:=by rw[hR,hE (by rw[hci];decide),hci]
   rw[hV];simp (disch:=omega) only[k9,t2,t4,gl,gg,Nat.mul_one,Nat.zero_add,go_sem]
   repeat' first
    |(refine qk ( .bool false) ?_;simp (disch:=omega) only[go_sem])
    |(apply qb;exact rvk;simp only[go_sem];exact qj)
    |with_reducible apply aiA
   all_goals try exact clz
  have k9:((q:Int)=1)=True:=eqt (by omega);rw[dqt g2,Bool.true_and]at hcc;have c4:=c4 (qr (some O1)+1) (qr (some O2)+1);obtain⟨B,hB⟩: ∃B,B=qZ (fun j=>decide ((b.getD j default).col=(i:Int))&&decide ((b.getD j default).text=tt.text)) b.length:=⟨_,rfl⟩
  rw[←hB]at hcc;simp only[←hB]at c4;unfold zc at c4;simp (disch:=omega) only[k9,t2,t4,gl,gg,Nat.mul_one,Nat.zero_add,zc,go_sem]
  repeat' first
   |with_reducible apply aiA
  all_goals try exact clz
  refine cG (fun _=>c4 _ ?ka ?kb) (fun _=>by exact flk) ?_
  case ka=>simp only[go_sem]
  case kb=>simp only[go_sem]
  cases B with
  |false=>
   rw[hcc,ine (by simp)]at hci;have hV:R=9:=by rw[hR,hE (by rw[hci];decide),hci]
   rw[hV];simp (disch:=omega) only[go_sem]
   repeat' first
    |(apply qb;exact rvk;simp only[go_sem];exact qj)
  |true=>
   rw[hcc,ipo rfl]at hci;simp (disch:=omega) only[go_sem];refine hK _ _ (i+1,.mem (qr (some O1)+1) 3 [.int .i64 (i:Int)],.mem (qr (some O2)+1) 9 [.str tt.text]) ⟨hi,rfl,rfl,hS hci⟩ (by simp only;omega) (Wk.temps ?_)
   (simp only[zc,qO,qu,go_sem,qi,qe,qa,qh];try (repeat' first|(with_reducible apply aiA)|(apply qg;omega)|(apply qf;rfl)|exact qj))
 ·have k3:((i:Int)<x.col.length)=False:=eqf (by omega);rw[qI (fun j (hj:j<x.col.length)=>j3 j (by omega))]at hR;rw[hR];simp (disch:=omega) only[coC,qu,k3,go_sem]
  repeat' first
   |(apply qb;exact rvk;simp only[go_sem];exact qj)
end RC
end
section
open Go Go.Proofs AF
def qaY:List Nat:= []
def qAO:C:=
 ((C.ops [MC 4 (i6 0),MC 5 (i6 0)]).seq (((C.ops [MV 9 0,O1 10 .len 9,MV 6 10]).seq (C.block 0 ((C.ops [MV 12 6,BC 13 .eql 12 (i6 0),MV 11 13]).seq (C.cond (.t 11) ((C.ops [MC
 4 (i6 0),MC 5 (i6 5)]).seq C.ret) ((C.ops [MV 15 6,BC 16 .gtr 15 (i6 16),MV 14 16]).seq (C.cond (.t 14) ((C.ops [MC 4 (i6 0),MC 5 (i6 4)]).seq C.ret) C.skip)))))).seq (((C.ops
 [MV 17 0,O1 18 .len 17,MC 19 (i6 0)]).seq (C.block 1 ((C.ops [BI 20 .lss 19 18]).seq ((C.cond (.t 20) C.skip (C.exit 1)).seq ((C.block 2 ((C.ops [MV 21 19,O2 22 (.idxA 1) 17 19,
 LD 23 22,MV 7 21,MV 8 23]).seq ((C.ops [MV 24 8,OC 25 (.call 44 true) 24 (.str [32]),MV 26 1,O2 27 (.call 43 true) 25 26,MV 28 27,MG 29 28 true 1,PC 30 28 true (.bin .neq)
 29 (.str []),PF 31 28 30]).seq (C.cond (.t 31) ((C.ops [MV 32 7,MV 4 32,MC 5 (i6 0)]).seq C.ret) C.skip)))).seq (C.ops [BC 33 .add 19 (i6 1),MV 19 33])))).loop)).seq ((C.ops
 [MV 34 0,O1 35 .len 34,BC 36 .sub 35 (i6 1),MV 4 36,MC 5 (i6 0)]).seq
 C.ret))))
theorem qtT:qE Tryz.prog 27 37 0 [RV.tmp 4,RV.tmp 5] qAO:=fi Tryz.f27 [] qaY []
def qA2:C:=
 ((C.ops [O1 3 (.box 0 3) 1,MC 4 (i6 0),MC 5 (i6 0),MC 6 (i6 0)]).seq ((C.ops [O1 10 (.mkfn (Fn.func 105) 0) 3,MV 7 10]).seq ((C.ops [MV 11 0,MV 12 7,O2 13 (.call 106 true) 11
 12,MV 8 13]).seq (((C.ops [MV 14 8,BC 15 .lss 14 (i6 0)]).seq (C.cond (.t 15) ((C.ops [MC 4 (i6 0),MC 5 (i6 0),MC 6 (i6 6)]).seq C.ret) C.skip)).seq ((C.ops [MV 16 8,MV 9
 16]).seq ((C.block 0 (((C.ops [MV 17 9,MV 18 0,O1 19 .len 18,BI 20 .lss 17 19,MV 21 20,MG 22 21 true 7,MG 23 21 true 0,MG 24 21 true 9,P2 25 21 true (.idxA 7) 23 24,P1 26
 21 true (.load (some 7)) 25,P2 27 21 true .callv 22 26,PF 28 21 27]).seq (C.cond (.t 28) C.skip (C.exit 0))).seq (C.block 1 (C.ops [MV 29 9,BC 30 .add 29 (i6 1),MV 9
 30]))).loop).seq (((C.ops [MV 31 0,MV 32 9,O2 33 (.slc 7 true false) 31 32,MV 34 7,O2 35 (.call 92 true) 33 34]).seq (C.cond (.t 35) ((C.ops [MC 4 (i6 0),MC 5 (i6 0),MC 6 (i6
 10)]).seq C.ret) C.skip)).seq ((C.ops [MV 36 8,MV 37 9,MV 4 36,MV 5 37,MC 6 (i6 0)]).seq
 C.ret))))))))
theorem qyZ:qE Tryz.prog 31 38 1 [RV.tmp 4,RV.tmp 5,RV.tmp 6] qA2:=fi Tryz.f31 [3] qaY []
def qws:C:=
 ((C.ops [O1 2 (.box 0 64) 0,MC 3 (.bool false)]).seq ((C.ops [O1 4 (.fldA 2) 2,LD 5 4,LD 6 1,BI 7 .eql 5 6,MV 3 7]).seq
 C.ret))
theorem qxV:qE Tryz.prog 105 8 1 [RV.tmp 3] qws:=fi Tryz.f105 [2] qaY []
def qsI:C:=
 ((C.ops [O1 5 (.box 0 83) 2,MC 6 (i6 0),MC 7 (i6 0)]).seq (((C.ops [MV 15 0,MV 16 1,O2 17 (.call 31 true) 15 16,MV 14 17,O1 18 (.ext 0) 14,O1 19 (.ext 1) 14,O1 20 (.ext 2)
 14,MV 8 18,MV 9 19,MV 10 20]).seq ((C.ops [MV 21 10,BC 22 .eql 21 (i6 0)]).seq (C.cond (.t 22) ((C.ops [MV 23 8,MV 24 9,MV 6 23,MV 7 24]).seq C.ret) C.skip))).seq ((C.ops
 [MC 11 (i6 0)]).seq (((C.ops [MV 25 0,O1 26 .len 25,MC 27 (i6 0)]).seq (C.block 0 ((C.ops [BI 28 .lss 27 26]).seq ((C.cond (.t 28) C.skip (C.exit 0)).seq ((C.block 1 ((C.ops [O2
 29 (.idxA 7) 25 27,O1 30 (.load (some 7)) 29,⟨some 13,none,.alloc 1 64 [.str [],i6 0,i6 0,i6 0,.bool false,.bool false,.str []],[]⟩,ST 7 13 30]).seq ((C.ops [O1 31
 (.fldA 1) 13,LD 32 31,O1 33 (.fldA 0) 5,LD 34 33,BI 35 .lss 32 34]).seq (C.cond (.t 35) (C.ops [MV 36 11,BC 37 .add 36 (i6 1),MV 11 37]) C.skip)))).seq (C.ops [BC 38 .add 27
 (i6 1),MV 27 38])))).loop)).seq ((C.ops [MV 39 11,MV 40 11,MV 6 39,MV 7 40]).seq
 C.ret)))))
theorem qrA:qE Tryz.prog 160 41 2 [RV.tmp 6,RV.tmp 7] qsI:=fi Tryz.f160 [5,13] qaY []
def qwE:C:=
 ((C.ops [O1 5 (.box 0 83) 0,O1 6 (.box 1 22) 1,O1 7 (.box 2 22) 2,O1 8 (.box 3 22) 3,O1 9 (.box 4 3) 4,MC 10 .nilfn]).seq ((C.ops [ON 11 (.mkfn (Fn.func 215) 0) [.t 5,.t 8,
 .t 6,.t 9,.t 7],MV 10 11]).seq
 C.ret))
theorem qya:qE Tryz.prog 161 12 5 [RV.tmp 10] qwE:=fi Tryz.f161 [5,6,7,8,9] qaY []
def qwS:C:=
 ((C.ops [O1 11 (.fldA 2) 1,LD 12 11,O1 13 .len 12,MC 14 (i6 0)]).seq (C.block 0 ((C.ops [BI 15 .lss 14 13]).seq ((C.cond (.t 15) C.skip (C.exit 0)).seq ((C.block 1 ((C.ops [MV
 16 14,O2 17 (.idxA 2) 12 14,O1 18 (.load (some 2)) 17,⟨some 8,none,.alloc 0 89 [.nl,.nl],[]⟩,MV 7 16,ST 2 8 18]).seq ((C.ops [LD 20 2,LD 21 3,MV 22 7,O2 23 (.idxA 1) 21
 22,LD 24 23,O2 25 (.call 27 true) 20 24,MV 19 25,O1 26 (.ext 0) 19,O1 27 (.ext 1) 19,MV 9 26,MV 10 27]).seq ((C.ops [MV 28 9,LD 29 4,BI 30 .eql 28 29,MV 31 30,P1 32 31
 true (.fldA 0) 8,P1 33 31 true (.load none) 32,P1 34 31 true (.load none) 5,P2 35 31 true (.call 139 true) 33 34,P1 36 31 true (.un UnOp.not) 35,PF 37 31 36,MV 38 37,MG 39
 38 true 0,P1 40 38 true (.load (some 2)) 8,P2 41 38 true .callv 39 40,P1 42 38 true (.un UnOp.not) 41,PF 43 38 42]).seq (C.cond (.t 43) C.ret C.skip))))).seq (C.ops [BC 44 .add
 14 (i6 1),MV 14
 44])))).loop))
theorem qyr:qE Tryz.prog 215 45 1 [] qwS:=fi Tryz.f215 [8] qaY []
def qwF:C:=
 ((C.ops [O1 2 (.box 0 89) 0,MC 3 (.bool false)]).seq ((C.ops [O1 4 (.fldA 0) 2,LD 5 4,LD 6 1,O2 7 (.call 139 true) 5 6,MV 3 7]).seq
 C.ret))
theorem qyb:qE Tryz.prog 162 8 1 [RV.tmp 3] qwF:=fi Tryz.f162 [2] qaY []
end
section
set_option linter.unusedVariables false
namespace Go.Proofs
open Go.Shelf Go.RowKit Go.Lib
set_option maxHeartbeats 1000000 in
set_option maxRecDepth 100000 in
theorem qk6(s:ByteArray)(c:UInt8)(w:World):
  Calls Tryz.prog 183 #[.string s,.string ⟨#[c]⟩] w fun e w'=>e= .returned (.int .i64 (Lib.countByte s.data.toList c))∧w'=w:=by
 go_enter Tryz.func183,Tryz.ntmps183
 go_wp2
 rw[run_callFunc_extern Tryz.func239 (by kernel_rfl) (by kernel_rfl) (by kernel_rfl) (e:=Extern.BytealgCount.count) (by kernel_rfl),Lib.run_countString];simp only[Result.andThen];rw[Oper.upon_value]
 go_wp2
 go_ret
 exact⟨rfl,rfl⟩
set_option maxHeartbeats 2000000 in
set_option maxRecDepth 100000 in
theorem qlY(s:ByteArray)(c:UInt8)(w:World):
  Calls Tryz.prog 240 #[.string s,.string ⟨#[c]⟩] w fun e w'=>e= .returned (.int .i64 (Lib.indexByte s.data.toList c))∧w'=w:=by
 have e95: ∀args w,(callFunc 280 args).run Tryz.prog w= .ok (.enter 280 args) w:=enters_of Tryz.func280 (by kernel_rfl) rfl
 go_enter Tryz.func240,Tryz.ntmps240
 go_wp2_with (go_at_fn 280;refine (qhh _ _ _).mono ?_;rintro e w' ⟨rfl,rfl⟩)
 ·have h:([c]==s.toList)=true:=by assumption
  go_ret
  refine⟨?_,rfl⟩;have e:s.data.toList= [c]:=by rw[←Lib.toList_data];exact (beq_iff_eq.1 h).symm
  rw[e];simp[Lib.indexByte]
 ·go_ret
  exact⟨rfl,rfl⟩
set_option maxHeartbeats 1000000 in
theorem qpE(s:ByteArray)(c:UInt8)(w:World):
  Calls Tryz.prog 184 #[.string s,.string ⟨#[c]⟩] w fun e w'=>e= .returned (.int .i64 (Lib.indexByte s.data.toList c))∧w'=w:=by
 have e114: ∀args w,(callFunc 240 args).run Tryz.prog w= .ok (.enter 240 args) w:=enters_of Tryz.func240 (by kernel_rfl) rfl
 go_enter Tryz.func184,Tryz.ntmps184
 go_wp2_with (go_at_fn 240;refine (qlY _ _ _).mono ?_;rintro e w' ⟨rfl,rfl⟩)
 go_ret
 exact⟨rfl,rfl⟩
end Go.Proofs
end
section
open Go Go.Proofs AF HY
namespace HY
theorem qEk(s:List UInt8)(c:UInt8)(h:List AObj):ACalls Tryz.prog 183 [.str s,.str [c]] h (.int .i64 (s.count c)) h:=by
 refine⟨qwb Tryz.func183 (by kernel_rfl) (by kernel_rfl),fun w σ xs H hv=> ?_⟩;obtain⟨x,y,rfl,hx,hy⟩:=hv.two;rw[zU hx,zU hy];refine (callsIn_wide.2 (qk6 ⟨s.toArray⟩ c w)).mono ?_;rintro e w' ⟨rfl,rfl⟩;exact⟨_,σ,rfl,H,.imm .int,Ext.refl _ _⟩
theorem qEl(s:List UInt8)(c:UInt8)(h:List AObj):ACalls Tryz.prog 184 [.str s,.str [c]] h (.int .i64 (Go.Lib.indexByte s c)) h:=by
 refine⟨qwb Tryz.func184 (by kernel_rfl) (by kernel_rfl),fun w σ xs H hv=> ?_⟩;obtain⟨x,y,rfl,hx,hy⟩:=hv.two;rw[zU hx,zU hy];refine (callsIn_wide.2 (qpE ⟨s.toArray⟩ c w)).mono ?_;rintro e w' ⟨rfl,rfl⟩;exact⟨_,σ,rfl,H,.imm .int,Ext.refl _ _⟩
def qal(c:UInt8)(s:List UInt8):Nat:=(s.takeWhile (· !=c)).length
def qag(c:UInt8)(s:List UInt8):Nat→List UInt8
 |0=>s
 |i+1=>(qag c s i).drop (qal c (qag c s i)+1)
def ky(c:UInt8)(s:List UInt8)(i:Nat):List UInt8:=if i<s.count c then (qag c s i).take (qal c (qag c s i)) else qag c s i
def kx(c:UInt8)(s:List UInt8):List (List UInt8):=(List.range (s.count c+1)).map (ky c s)
theorem qbX(c:UInt8)(s:List UInt8):(kx c s).length=s.count c+1:=by simp[kx]
theorem qaG(c b:UInt8)(s:List UInt8):qal c (b::s)=if b=c then 0 else qal c s+1:=by
 unfold qal;rw[List.takeWhile_cons]
 by_cases e:b=c
 ·simp[e]
 ·simp[e]
theorem qlS(c:UInt8): ∀(s:List UInt8),0<s.count c→Go.Lib.indexByte s c=qal c s:=by
 intro s
 induction s with
 |nil=>intro h;simp at h
 |cons b s ih=>
  intro h;unfold Go.Lib.indexByte;rw[qaG]
  by_cases e:b=c
  ·simp[e]
  ·rw[List.count_cons,ine (by simpa using e)]at h
   have:=ih (by omega)
   rw[ine (by simpa using e),ine e,this,ine (by simp<;>omega)];rfl
theorem qoW(c:UInt8): ∀(s:List UInt8),0<s.count c→qal c s<s.length:=by
 intro s
 induction s with
 |nil=>intro h;simp at h
 |cons b s ih=>
  intro h;rw[qaG]
  by_cases e:b=c
  ·simp[e]
  ·rw[List.count_cons,ine (by simpa using e)]at h
   have:=ih (by omega)
   rw[ine e,List.length_cons];omega
theorem qeR(c:UInt8): ∀(s:List UInt8),0<s.count c→(s.drop (qal c s+1)).count c=s.count c-1:=by
 intro s
 induction s with
 |nil=>intro h;simp at h
 |cons b s ih=>
  intro h;rw[qaG]
  by_cases e:b=c
  ·simp[e]
  ·rw[List.count_cons,ine (by simpa using e)]at h
   have:=ih (by omega)
   rw[ine e,List.drop_succ_cons,this,List.count_cons,ine (by simpa using e)];rfl
theorem qia(c:UInt8)(s:List UInt8): ∀i,i≤s.count c→(qag c s i).count c=s.count c-i:=by
 intro i
 induction i with
 |zero=>intro _;rfl
 |succ i ih=>
  intro h
  have:=ih (by omega)
  show ((qag c s i).drop _).count c=_;rw[qeR _ _ (by omega),this];omega
theorem qqn(c:UInt8)(s:List UInt8): ∀i,(qag c s i).length≤s.length:=by
 intro i
 induction i with
 |zero=>exact nlr _
 |succ i ih=>show ((qag c s i).drop _).length≤_;rw[List.length_drop];omega
def qaQ(c:UInt8)(s:List UInt8)(i:Nat):List (List UInt8):=(List.range (s.count c+1)).map fun j=>if j<i then ky c s j else []
theorem qfy(c:UInt8)(s:List UInt8)(i:Nat):(qaQ c s i).length=s.count c+1:=by simp[qaQ]
theorem qnp(c:UInt8)(s:List UInt8){i:Nat}(hi:i<s.count c+1):(qaQ c s i).set i (ky c s i)=qaQ c s (i+1):=by
 apply List.ext_getElem
 ·simp[qaQ]
 ·intro j h1 h2;simp only[qaQ,List.length_set,List.length_map,List.length_range]at h1;rw[List.getElem_set];simp only[qaQ,List.getElem_map,List.getElem_range]
  by_cases e:i=j
  ·subst e;simp
  ·rw[ine e]
   by_cases e2:j<i
   ·rw[ipo e2,ipo (by omega)]
   ·rw[ine e2,ine (by omega)]
theorem qno(c:UInt8)(s:List UInt8):qaQ c s (s.count c+1)=kx c s:=by
 unfold qaQ kx;apply List.map_congr_left;intro j hj;rw[ipo (by simpa using hj)]
theorem qqP(L:List (List UInt8)){i:Nat}(x:List UInt8)(hi:i<L.length):List.take i (jn L)++ [.str x]++List.drop (i+1) (jn L)=jn (L.set i x):=by
 unfold jn;rw[List.map_set,List.set_eq_take_append_cons_drop,ipo (by simpa using hi),List.append_assoc];rfl
theorem qiy(n:Nat):zu [.str []] n=jn (List.replicate n []):=by
 induction n with
 |zero=>rfl
 |succ n ih=>simp only[zu,ih,List.replicate_succ];rfl
theorem qi4(c:UInt8)(s:List UInt8):List.replicate (s.count c+1) []=qaQ c s 0:=by
 apply List.ext_getElem
 ·simp[qaQ]
 ·intro j h1 h2;simp[qaQ]
set_option maxHeartbeats 4000000 in
theorem u78(s:List UInt8)(c:UInt8)(h:List AObj)(hs:s.length≤1000000000):ACalls Tryz.prog 118 [.str s,.str [c],.int .i64 0,.int .i64 (-1)] h (strs (kx c s)) h:=by
 have c100:=fun h=>qEk s c h
 have hcl:s.count c≤s.length:=List.count_le_length;obtain⟨N,hN⟩: ∃N,N=s.count c:=⟨_,rfl⟩
 have k1:((N:Int)+1≤(s.length:Int)+1)=True:=eqt (by omega);have e1:min ((N:Int)+1) ((s.length:Int)+1)=(N:Int)+1:=by omega
 have e2:((N:Int)+1).toNat=N+1:=by omega
 have e3:zu [AV.str []] (N+1)=jn (qaQ c s 0):=by rw[qiy,←qi4,hN]
 have e4:((N:Int)+1-1)=N:=by omega
 simp only[←hN]at c100;refine acO qxX ?_;simp (disch:=omega) only[qwt,go_sem]
 repeat' first
  |(refine cA (c100 _) flk ?_;simp (disch:=omega) only[e1,e2,e3,e4,go_sem])
  |(apply qb;exact rvk;simp only[go_sem])
  |with_reducible first|intro _|apply aiA
 all_goals try exact clz
 refine qp (T:=fun i:Nat=>qQ 66 [(0,.str (qag c s i)),(1,.str [c]),(2,.int .i64 0),(3,.int .i64 N),(9,.osl (h.length+1) 1 1 0 (N+1)),(10,.int .i64 i)]) (H:=fun i=>h++ [.emp 1,.mem 1 9 (jn (qaQ c s i))])
  (inv:=fun i=>i≤N) (m:=fun i=>N-i) 0 (by omega) (Wk.temps ?_) ?_
 ·(simp only[qag,go_sem,qi,qe,qa,qh];try (repeat' first|(with_reducible apply aiA)|(apply qg;omega)|(apply qf;rfl)|exact qj))
 rintro i i1 K hK;have eL:=jR (qaQ c s i);rw[qfy,←hN]at eL;have hst:=qqP (qaQ c s i) (i:=i) (ky c s i) (by rw[qfy];omega);rw[qnp c s (by omega)]at hst
 by_cases hi:i<N
 ·obtain⟨r,hr⟩: ∃r,r=qag c s i:=⟨_,rfl⟩
  have hcr:=qia c s i (by omega);rw[←hr]at hcr;have hix:=qlS c r (by omega);have hlt:=qoW c r (by omega);have hrl:=qqn c s i;rw[←hr]at hrl;have hP:ky c s i=r.take (qal c r):=by unfold ky;rw[ipo (by omega),←hr]
  have hR:qag c s (i+1)=r.drop (qal c r+1):=by rw[hr];rfl
  obtain⟨m,hm⟩: ∃m,m=qal c r:=⟨_,rfl⟩
  rw[←hm]at hix hlt hP hR;have c101:=fun h=>qEl r c h
  simp only[hix]at c101;rw[hP]at hst;simp (disch:=omega) only[qQ,List.foldl,hr.symm,eL,go_sem]
  repeat' first
   |(refine cA (c101 _) flk ?_;simp (disch:=omega) only[eL,go_sem])
   |(apply qb;exact rvk;simp only[go_sem])
   |with_reducible first|intro _|apply aiA
  all_goals try exact clz
  have f1:(((m:Nat):Int)+0).toNat-0=m:=by omega
  have f2:(((m:Nat):Int)+((1:Nat):Int)).toNat=m+1:=by omega
  have f3:List.take (r.length-(m+1)) (List.drop (m+1) r)=qag c s (i+1):=by rw[hR];exact ltl (by rw[List.length_drop];exact nlr _)
  rw[f1,hst,f2,f3];refine hK _ _ (i+1) (by omega) (by omega) (Wk.temps ?_)
  (simp only[go_sem,qi,qe,qa,qh];try (repeat' first|(with_reducible apply aiA)|(apply qg;omega)|(apply qf;rfl)|exact qj))
 ·have e:i=N:=by omega
  subst e;simp (disch:=omega) only[qQ,List.foldl,eL,go_sem]
  repeat' first
   |(apply qb;exact rvk;simp only[go_sem])
   |with_reducible first|intro _|apply aiA
  all_goals try exact clz
  have hP:ky c s i=qag c s i:=by unfold ky;rw[ine (by omega)]
  have f1:(((i:Nat):Int)+1).toNat-0=i+1:=by omega
  have hall:=qno c s;rw[←hN]at hall;rw[hP,hall]at hst;rw[hst,f1,ipo (by rw[jR,qbX];omega)];exact qb0 (by rw[qbX];omega)
theorem qBK(L:List (List UInt8)):(strs L).flag=true:=rfl
theorem qCd(L:List (List UInt8)):(strs L).strip=strs L:=rfl
theorem u45(s:List UInt8)(c:UInt8)(h:List AObj)(hs:s.length≤1000000000):ACalls Tryz.prog 44 [.str s,.str [c]] h (strs (kx c s)) h:=by
 have c78:=fun h=>u78 s c h hs
 refine acO qBt ?_;simp (disch:=omega) only[qCI,go_sem]
 repeat' first
  |(refine cA (c78 _) flk ?_;simp (disch:=omega) only[qBK,qCd,go_sem])
  |(apply qb;exact rvk;simp only[go_sem];exact qj)
end HY
end
section
open Go Go.Proofs AF HY LN
namespace HY
def spl(cur:List UInt8):List UInt8→List (List UInt8)
 | []=> [cur]
 |c::r=>if c=32 then cur::spl [] r else spl (cur++ [c]) r
theorem qiJ(s:List UInt8): ∀i,qag 32 s (i+1)=qag 32 (s.drop (qal 32 s+1)) i:=by
 intro i
 induction i with
 |zero=>rfl
 |succ i ih=>
  show (qag 32 s (i+1)).drop (qal 32 (qag 32 s (i+1))+1)=_;rw[ih];rfl
theorem qgs{s:List UInt8}(h:0<s.count 32):kx 32 s=s.take (qal 32 s)::kx 32 (s.drop (qal 32 s+1)):=by
 have hc:=qeR 32 s h;unfold kx;rw[hc,List.range_succ_eq_map,List.map_cons,List.map_map];have e0:ky 32 s 0=s.take (qal 32 s):=by unfold ky;rw[ipo h];rfl
 rw[e0,show s.count 32-1+1=s.count 32 by omega];congr 1;refine List.map_congr_left (fun i _=> ?_);show ky 32 s (i+1)=_;unfold ky;rw[qiJ,hc]
 by_cases hi:i+1<s.count 32
 ·rw[ipo hi,ipo (by omega)]
 ·rw[ine hi,ine (by omega)]
theorem qgt{s:List UInt8}(h:s.count 32=0):kx 32 s= [s]:=by
 unfold kx;rw[h];show [ky 32 s 0]= [s];unfold ky;rw[ine (by omega)];rfl
theorem qqK: ∀(s cur:List UInt8),s.count 32=0→spl cur s= [cur++s]:=by
 intro s
 induction s with
 |nil=>intro cur _;simp[spl]
 |cons c r ih=>
  intro cur h;unfold spl
  by_cases e:c=32
  ·subst e;simp at h
  ·rw[ine e];rw[List.count_cons,ine (by simpa using e)]at h;rw[ih _ (by omega)];simp
theorem qqL: ∀(s cur:List UInt8),0<s.count 32→spl cur s=(cur++s.take (qal 32 s))::spl [] (s.drop (qal 32 s+1)):=by
 intro s
 induction s with
 |nil=>intro cur h;simp at h
 |cons c r ih=>
  intro cur h
  conv=>lhs;unfold spl
  rw[qaG]
  by_cases e:c=32
  ·subst e;simp
  ·rw[ine e,ine e];rw[List.count_cons,ine (by simpa using e)]at h;rw[ih _ (by omega)];simp
theorem qi2: ∀(n:Nat) (s:List UInt8),s.length≤n→spl [] s=kx 32 s:=by
 intro n
 induction n with
 |zero=>
  intro s h
  have:s= []:=List.eq_nil_of_length_eq_zero (by omega)
  subst this;rfl
 |succ n ih=>
  intro s h
  by_cases hc:0<s.count 32
  ·rw[qqL s [] hc,qgs hc,ih _ (by rw[List.length_drop];omega)];rfl
  ·rw[qqK s [] (by omega),qgt (by omega)];rfl
end HY
namespace RC
theorem qu4{x:Str}(hx:x≠ []): ∀(s cur:Str),x∈spl cur s↔x∈qp7 cur s:=by
 intro s
 induction s with
 |nil=>
  intro cur;unfold spl qp7;split
  ·rename_i e;subst e;simp[hx]
  ·rfl
 |cons c r ih=>
  intro cur;unfold spl qp7;split
  ·rw[List.mem_cons,List.mem_append,ih];split
   ·rename_i e;subst e;simp[hx]
   ·rw[List.mem_singleton]
  ·exact ih _
theorem qf7(x s:Str):qdi x s=(decide (x≠ [])&&decide (x∈kx 32 s)):=by
 unfold qdi
 by_cases hx:x= []
 ·subst hx;rw[dqf (qzH s [])];rfl
 ·rw[dqt hx,Bool.true_and];refine decide_eq_decide.2 ?_;rw[←qi2 s.length s (nlr _),qu4 hx]
end RC
end
