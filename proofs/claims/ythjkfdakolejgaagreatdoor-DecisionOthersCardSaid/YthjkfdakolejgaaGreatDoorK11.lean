import Derived.Test.YthjkfdakolejgaaGreatDoorK3
import Derived.Test.YthjkfdakolejgaaGreatDoorK5
import Derived.Test.YthjkfdakolejgaaGreatDoorK8
import Derived.Test.YthjkfdakolejgaaGreatDoorProg
import Derived.Test.YthjkfdakolejgaaGreatDoorK10
import Derived.Test.YthjkfdakolejgaaGreatDoorK9
import Derived.Test.YthjkfdakolejgaaGreatDoorK7
set_option linter.all false
set_option linter.unusedSimpArgs false
set_option linter.unusedVariables false
set_option linter.unusedSectionVars false
set_option maxHeartbeats 64000000
set_option maxRecDepth 100000
section
open Go Go.Proofs AF
def qes:List Nat:= []
def qEv:C:=
 ((C.ops [MC 2 (.bool false)]).seq (((C.ops [MC 3 (i6 0)]).seq (C.block 0 (((C.ops [MV 5 3,MV 6 0,O1 7 .len 6,BI 8 .lss 5 7]).seq (C.cond (.t 8) C.skip (C.exit 0))).seq ((C.block
 1 (((C.ops [MV 11 0,MV 12 3,O2 13 (.idxA 3) 11 12,O1 14 (.fldA 2) 13,LD 15 14,O1 16 .len 15,BC 17 .gtr 16 (i6 6)]).seq (C.cond (.t 17) ((C.ops [MC 2 (.bool true)]).seq C.ret)
 C.skip)).seq ((C.ops [MC 4 (i6 0)]).seq (C.block 2 (((C.ops [MV 18 4,MV 19 0,MV 20 3,O2 21 (.idxA 3) 19 20,O1 22 (.fldA 2) 21,LD 23 22,O1 24 .len 23,BI 25 .lss 18 24]).seq
 (C.cond (.t 25) C.skip (C.exit 2))).seq ((C.block 3 ((C.ops [MV 28 0,MV 29 3,O2 30 (.idxA 3) 28 29,O1 31 (.fldA 2) 30,LD 32 31,MV 33 4,O2 34 (.idxA 2) 32 33,O1 35 (.fldA 1)
 34,LD 36 35,O1 37 .len 36,BC 38 .gtr 37 (i6 8),MV 39 38,MG 40 39 false 0,MG 41 39 false 3,P2 42 39 false (.idxA 3) 40 41,P1 43 39 false (.fldA 2) 42,P1 44 39 false (.load
 none) 43,MG 45 39 false 4,P2 46 39 false (.idxA 2) 44 45,P1 47 39 false (.fldA 0) 46,P1 48 39 false (.load none) 47,PC 49 39 false (.call 146 true) 48 (i6 8),PT 50 39
 49]).seq (C.cond (.t 50) ((C.ops [MC 2 (.bool true)]).seq C.ret) C.skip))).seq (C.ops [MV 26 4,BC 27 .add 26 (i6 1),MV 4 27]))).loop)))).seq (C.ops [MV 9 3,BC 10 .add 9 (i6 1),
 MV 3 10]))).loop)).seq ((C.ops [MV 51 0,O1 52 .len 51,BC 53 .gtr 52 (i6 12),MV 2 53]).seq
 C.ret)))
theorem qDa:qM Tryz.prog 97 54 0 [RV.tmp 2] qEv:=fi Tryz.f97 [] qes []
def qEh:C:=
 ((C.ops [O1 1 (.box 0 26) 0,MC 2 (.bool false)]).seq (((C.ops [MC 3 (i6 0)]).seq (C.block 0 (((C.ops [MV 4 3,O1 5 (.fldA 3) 1,LD 6 5,O1 7 .len 6,BI 8 .lss 4 7]).seq (C.cond
 (.t 8) C.skip (C.exit 0))).seq ((C.block 1 ((C.ops [O1 11 (.fldA 3) 1,LD 12 11,MV 13 3,O2 14 (.idxA 1) 12 13,LD 15 14,O1 16 .len 15,BC 17 .gtr 16 (i6 36)]).seq (C.cond (.t
 17) ((C.ops [MC 2 (.bool true)]).seq C.ret) C.skip))).seq (C.ops [MV 9 3,BC 10 .add 9 (i6 1),MV 3 10]))).loop)).seq ((C.ops [O1 18 (.fldA 2) 1,LD 19 18,O1 20 (.call 84 true)
 19,MV 21 20,P1 22 21 false (.fldA 3) 1,P1 23 21 false (.load none) 22,P1 24 21 false .len 23,PC 25 21 false (.bin .gtr) 24 (i6 24),PT 26 21 25,MV 27 26,P1 28 27 false
 (.fldA 1) 1,P1 29 27 false (.load none) 28,P1 30 27 false .len 29,PC 31 27 false (.bin .gtr) 30 (i6 36),PT 32 27 31,MV 33 32,P1 34 33 false (.fldA 0) 1,P1 35 33 false (.load
 none) 34,P1 36 33 false (.fldA 1) 1,P1 37 33 false (.load none) 36,P2 38 33 false (.call 85 true) 35 37,PT 39 33 38,MV 2 39]).seq
 C.ret)))
theorem qCU:qM Tryz.prog 28 40 1 [RV.tmp 2] qEh:=fi Tryz.f28 [1] qes []
def qEo:C:=
 ((C.ops [MC 2 (.bool false)]).seq ((C.ops [MC 3 (i6 1)]).seq (((C.ops [MC 4 (i6 0)]).seq (C.block 0 (((C.ops [MV 7 4,MV 8 0,O1 9 .len 8,BI 10 .lss 7 9]).seq (C.cond (.t 10)
 C.skip (C.exit 0))).seq ((C.block 1 (((C.ops [MV 13 0,MV 14 4,O2 15 (.idxA 1) 13 14,LD 16 15,O1 17 .len 16,BC 18 .gtr 17 (i6 6),MV 19 18,MG 20 19 false 4,PC 21 19 false
 (.bin .geq) 20 (i6 4),MG 22 19 false 21,MG 23 22 true 0,MG 24 22 true 4,P2 25 22 true (.idxA 1) 23 24,P1 26 22 true (.load none) 25,P1 27 22 true .len 26,PC 28 22 true (.bin
 .gtr) 27 (i6 1),QF 29 19 false 22 28,PT 30 19 29]).seq (C.cond (.t 30) ((C.ops [MC 2 (.bool true)]).seq C.ret) C.skip)).seq (((C.ops [MV 31 4,BC 32 .lss 31 (i6 4)]).seq (C.cond
 (.t 32) (C.ops [MV 33 3,MV 34 0,MV 35 4,O2 36 (.idxA 1) 34 35,LD 37 36,O1 38 .len 37,BC 39 .add 38 (i6 1),BI 40 .mul 33 39,MV 3 40]) C.skip)).seq ((C.ops [MC 5 (i6 0)]).seq
 (C.block 2 (((C.ops [MV 41 5,MV 42 0,MV 43 4,O2 44 (.idxA 1) 42 43,LD 45 44,O1 46 .len 45,BI 47 .lss 41 46]).seq (C.cond (.t 47) C.skip (C.exit 2))).seq ((C.block 3 ((C.ops
 [MV 50 0,MV 51 4,O2 52 (.idxA 1) 50 51,LD 53 52,MV 54 5,O2 55 (.idxA 6) 53 54,O1 56 (.load (some 6)) 55,⟨some 6,none,.alloc 0 103 [.str [],.str [],.str [],i6 0,i6 0,
 .str []],[]⟩,ST 6 6 56]).seq ((C.ops [O1 57 (.fldA 0) 6,LD 58 57,O1 59 .slen 58,BC 60 .gtr 59 (i6 12),MV 61 60,P1 62 61 false (.fldA 1) 6,P1 63 61 false (.load none) 62,P1
 64 61 false .slen 63,PC 65 61 false (.bin .gtr) 64 (i6 12),PT 66 61 65,MV 67 66,P1 68 67 false (.fldA 2) 6,P1 69 67 false (.fldA 0) 68,P1 70 67 false (.load none) 69,P1 71
 67 false .slen 70,PC 72 67 false (.bin .gtr) 71 (i6 20),PT 73 67 72,MV 74 73,P1 75 74 false (.fldA 5) 6,P1 76 74 false (.load none) 75,P1 77 74 false .slen 76,PC 78 74 false
 (.bin .gtr) 77 (i6 20),PT 79 74 78]).seq (C.cond (.t 79) ((C.ops [MC 2 (.bool true)]).seq C.ret) C.skip)))).seq (C.ops [MV 48 5,BC 49 .add 48 (i6 1),MV 5 49]))).loop))))).seq
 (C.ops [MV 11 4,BC 12 .add 11 (i6 1),MV 4 12]))).loop)).seq ((C.ops [MV 80 3,BC 81 .gtr 80 (i6 400),MV 82 81,MG 83 82 false 0,P1 84 82 false .len 83,PC 85 82 false (.bin
 .gtr) 84 (i6 6),MG 86 82 false 85,MG 87 86 true 0,P1 88 86 true .len 87,PC 89 86 true (.bin .leq) 88 (i6 32),QF 90 82 false 86 89,PT 91 82 90,MV 92 91,MG 93 92 false 0,P1
 94 92 false .len 93,PC 95 92 false (.bin .gtr) 94 (i6 34),PT 96 92 95,MV 2 96]).seq
 C.ret))))
theorem qC3:qM Tryz.prog 84 97 1 [RV.tmp 2] qEo:=fi Tryz.f84 [6] qes []
def qEp:C:=
 ((C.ops [MC 4 (.bool false)]).seq (((C.ops [MC 5 (i6 0)]).seq (C.block 0 (((C.ops [MV 6 5,MV 7 1,O1 8 .len 7,BI 9 .lss 6 8]).seq (C.cond (.t 9) C.skip (C.exit 0))).seq ((C.block
 1 ((C.ops [MV 12 1,MV 13 5,O2 14 (.idxA 1) 12 13,LD 15 14,O1 16 .slen 15,BC 17 .gtr 16 (i6 20)]).seq (C.cond (.t 17) ((C.ops [MC 4 (.bool true)]).seq C.ret) C.skip))).seq
 (C.ops [MV 10 5,BC 11 .add 10 (i6 1),MV 5 11]))).loop)).seq ((C.ops [MV 18 0,O1 19 .slen 18,BC 20 .gtr 19 (i6 20),MV 4 20]).seq
 C.ret)))
theorem qC4:qM Tryz.prog 85 21 0 [RV.tmp 4] qEp:=fi Tryz.f85 [] qes []
end
section
open Go Go.Proofs AF HY LN
namespace RC
theorem qCQ(u:Un)(c:Int)(h:List AObj):ACalls Tryz.prog 95 [.agg (unC u),.ip [.int .i64 c]] h (.bool (decide (u.frm≤c)&&decide (c<u.to))) h:=by
 by_cases g:u.frm≤c
 ·have k1:(u.frm≤c)=True:=eqt g;rw[dqt g,Bool.true_and];refine acO qzU ?_;simp (disch:=omega) only[qCo,unC,k1,go_sem]
  repeat' first
   |(apply qb;exact rvk;simp only[go_sem];exact qi)
   |with_reducible apply aiA
  all_goals try exact clz
 ·have k1:(u.frm≤c)=False:=eqf g;rw[dqf g,Bool.false_and];refine acO qzU ?_;simp (disch:=omega) only[qCo,unC,k1,go_sem]
  repeat' first
   |(apply qb;exact rvk;simp only[go_sem];exact qi)
   |with_reducible apply aiA
  all_goals try exact clz
theorem qFl(l:List Un)(c:Int)(k v:Nat)(h:List AObj)(hk:qr k h=some (.mem v 3 [.int .i64 c]))(hl:l.length≤1000000000):
  ACalls Tryz.prog 91 [zS l,.fn (.func 95) [] [.op k v 0]] h (.int .i64 (fnU l c)) h:=by
 have hc:=qP hk;unfold zS fnU;refine qgv qzS l.length (fun j=>unC (l.getD j default)) (fun j=> .agg (unC (l.getD j default))) _ [] [.op k v 0] _ h (fun i _=>⟨rfl,by simp[kB,unC],rfl,rfl,rfl⟩) (fun i _=> ?_) om;refine ACalls.borrow ?_ rfl;have e:([AV.agg (unC (l.getD i default))]++ [AV.op k v 0]).map (rei (fun _=>true) h 8)= [.agg (unC (l.getD i default)),.ip [.int .i64 c]]:=by
  simp only[lca,lna,List.map_cons,List.map_nil,rei_op,if_true,hc,ipOf_some,List.drop_zero,rei_agg];rfl
 rw[lna,e];exact qCQ _ c _
def fnR(l:List Un)(c:Int):Int:=if c<0 then 0 else fnU l c
def fnE(c:Int):Int:=if c<0 then 2 else 0
theorem qDb(l:List Un)(c:Int)(h:List AObj)(hl:l.length≤1000000000):ACalls Tryz.prog 42 [zS l,.int .i64 c] h (.tup [.int .i64 (fnR l c),.int .i64 (fnE c)]) h:=by
 unfold fnR fnE
 by_cases g:c<0
 ·have k1:(c<0)=True:=eqt g;rw[ipo g,ipo g];refine acO qzN ?_;simp (disch:=omega) only[qCi,k1,go_sem]
  repeat' first
   |(apply qb;exact rvk;simp only[go_sem];exact qi)
   |with_reducible apply aiA
  all_goals try exact clz
 ·have k1:(c<0)=False:=eqf g;rw[ine g,ine g];have c1:=qFl l c h.length 1 (h++ [.mem 1 3 [.int .i64 c]]) (by rw[getO_app0];rfl) hl;refine acO qzN ?_;simp (disch:=omega) only[qCi,k1,go_sem]
  repeat' first
   |(refine cA (c1) flk ?_;simp (disch:=omega) only[go_sem])
   |(apply qb;exact rvk;simp only[go_sem];exact qi)
   |with_reducible apply aiA
  all_goals try exact clz
def rnX(x:Co):List (List AV):=(qd3 (cmB x) x.col.length).map fun r=> [.int .i64 (r.1:Int),.int .i64 (r.2:Int)]
theorem qEG(x:Co)(h:List AObj):ACalls Tryz.prog 88 [.agg (coC x)] h (.fn (.func 139) [] [.ip (coC x)]) h:=by
 unfold coC;refine acO qC5 ?_;simp (disch:=omega) only[qEq,go_sem]
 repeat' first
  |(apply qb;exact rvk;simp only[go_sem];exact qi)
theorem qFz(u:Un)(f t:Int)(h:List AObj):ACalls Tryz.prog 167 [.agg (unC u),.ip [.int .i64 f],.ip [.int .i64 t]] h (.bool (decide (u.frm≤f)&&decide (t≤u.to))) h:=by
 by_cases g:u.frm≤f
 ·have k1:(u.frm≤f)=True:=eqt g;rw[dqt g,Bool.true_and];refine acO qsn ?_;simp (disch:=omega) only[qtp,unC,k1,go_sem]
  repeat' first
   |(apply qb;exact rvk;simp only[go_sem];exact qi)
   |with_reducible apply aiA
  all_goals try exact clz
 ·have k1:(u.frm≤f)=False:=eqf g;rw[dqf g,Bool.false_and];refine acO qsn ?_;simp (disch:=omega) only[qtp,unC,k1,go_sem]
  repeat' first
   |(apply qb;exact rvk;simp only[go_sem];exact qi)
   |with_reducible apply aiA
  all_goals try exact clz
theorem qAm{p:Nat→Bool}{n f t:Nat}(h1:f≤t)(h2:t≤n)(h3: ∀j,f≤j→j<t→p j=false)(h4:t<n→p t=true):nxt p (n-f) f=t:=by
 obtain⟨a1,a2,a3,a4⟩:=qhG p (n-f) f;rcases Nat.lt_trichotomy (nxt p (n-f) f) t with h|h|h
 ·have:=a4 om
  rw[h3 _ a1 h]at this;cases this
 ·exact h
 ·have:=h4 om
  rw[a3 t h1 h]at this;cases this
theorem qAM{x:Co}{pre rest:List (Nat×Nat)}{r:Nat×Nat}(h:qd3 (cmB x) x.col.length=pre++r::rest): ∃g:pre.length<(rnX x).length,(rnX x)[pre.length]= [.int .i64 (r.1:Int),.int .i64 (r.2:Int)]:=by
 unfold rnX;refine⟨by rw[h];simp,?_⟩;simp only[h,List.getElem_map];rw[List.getElem_append_right (nlr _)];simp
structure RnS where
 f:Nat
 D:Nat
 pre:List (Nat×Nat)
 hh:List AObj
theorem itR(x:Co)(ho:CoOk x)(hn:x.col.length≤1000000000):qoX Tryz.prog 139 [.ip (coC x)] (rnX x):=by
 intro h ts LI S E hS hE body start hts;have hcom:=fun k h hk=>cmP (x:=x) (k:=k) h ho hk
 obtain⟨p,hp⟩: ∃p,p=cmB x:=⟨_,rfl⟩
 have hxl:(rnX x).length=(qd3 p x.col.length).length:=by rw[hp];simp[rnX]
 have hat:= @qAM x;rw[←hp]at hat;rw[←hp]at hcom;refine acQ qyJ ?_;simp (disch:=omega) only[qxb,coC,go_sem];refine qu (T:=fun i:RnS=>ze 36 [(0,.yld h.length),(1,.ip (coC x)),(3,.int .i64 i.f)]) (H:=fun i=>i.hh++ [.lp .ready ts LI])
  (inv:=fun i=>i.f≤x.col.length+1∧x.col.length-i.f<i.D∧qd3 p x.col.length=i.pre++kP p x.col.length i.D i.f∧S i.pre.length i.hh) (m:=fun i=>x.col.length+1-i.f) ⟨0,x.col.length+1,[],h⟩ ⟨nzl _,by simp only;omega,rfl,start⟩ (Wk.temps ?_) ?_
 ·(simp only[coC,go_sem,qg,qc,qf];try (repeat' first|(with_reducible apply aiA)|(apply qh;omega)|(apply qe;rfl)|exact qi))
 rintro⟨f,D,pre,hh⟩ ⟨i1,i2,i3,i4⟩ K hK;simp only at i1 i2 i3 i4 hK;obtain⟨hlen,hlow⟩:=hS _ _ i4;have hb:(h++ [AObj.lp LS.ready ts LI]).length=(hh++ [AObj.lp LS.ready ts LI]).length:=by simp[hlen]
 by_cases hi:f<x.col.length
 ·have q0:((f:Int)<x.col.length)=True:=eqt om;obtain⟨D',rfl⟩: ∃D',D=D'+1:=⟨D-1,om⟩
  have hD:kP p x.col.length (D'+1) f=(if f<nxt p (x.col.length-f) f then [(f,nxt p (x.col.length-f) f)] else [])++kP p x.col.length D' (nxt p (x.col.length-f) f+1):=by
   conv=>lhs;unfold kP
   rw[ine om]
  simp (disch:=omega) only[coC,qw,q0,go_sem]
  repeat' first
   |with_reducible apply aiA
  all_goals try exact clz
  refine qu (T:=fun t:Nat=>ze 36 [(0,.yld h.length),(1,.ip (coC x)),(3,.int .i64 f),(4,.int .i64 t)]) (H:=fun _=>hh++ [.lp .ready ts LI])
   (inv:=fun t=>f≤t∧t≤x.col.length∧ ∀j,f≤j→j<t→p j=false) (m:=fun t=>x.col.length-t) f ⟨nlr _,om,fun j h1 h2=>by omega⟩ (Wk.temps ?_) ?_
  ·(simp only[coC,go_sem,qg,qc,qa,qf];try (repeat' first|(with_reducible apply aiA)|(apply qh;omega)|(apply qe;rfl)|exact qi))
  rintro t ⟨t1,t2,t3⟩ K2 hK2;have fin:(t<x.col.length→p t=true)→kP p x.col.length (D'+1) f=(if f<t then [(f,t)] else [])++kP p x.col.length D' (t+1):=fun h4=>by
   rw[hD,qAm t1 t2 t3 h4]
  have hend: ∀hh',kP p x.col.length (D'+1) f=(if f<t then [(f,t)] else [])++kP p x.col.length D' (t+1)→S (pre++if f<t then [(f,t)] else []).length hh'→qd3 p x.col.length=(pre++if f<t then [(f,t)] else [])++kP p x.col.length D' (t+1):=fun hh' h1 _=>by
   rw[i3,h1,List.append_assoc]
  by_cases ht:t<x.col.length
  ·have q1:((t:Int)<x.col.length)=True:=eqt om;have c1:=fun h=>hcom t h ht
   cases hpt:p t with
   |false=>
    rw[hpt]at c1;unfold coC qw at c1;simp (disch:=omega) only[coC,qw,q1,go_sem]
    repeat' first
     |(refine cG (fun e=>c1 _) flk ?_;simp (disch:=omega) only[go_sem])
     |with_reducible apply aiA
    all_goals try exact clz
    refine hK2 _ _ (t+1) ⟨om,ht,fun j h1 h2=> ?_⟩ om (Wk.temps ?_)
    ·by_cases e:j=t
     ·subst e;exact hpt
     ·exact t3 j h1 om
    ·(simp only[coC,go_sem,qg,qc,qa,qf];try (repeat' first|(with_reducible apply aiA)|(apply qh;omega)|(apply qe;rfl)|exact qi))
   |true=>
    rw[hpt]at c1;have hf:=fin fun _=>hpt
    unfold coC qw at c1
    by_cases gt:f<t
    ·have q2:((f:Int)<t)=True:=eqt om;rw[ipo gt]at hf;rw[hf]at i3;obtain⟨hdl,hxx⟩:=hat (pre:=pre) (r:=(f,t)) (rest:=kP p x.col.length D' (t+1)) i3;have hb':=body pre.length hh [] hdl i4;rw[hxx]at hb';have i5:qd3 p x.col.length=(pre++ [(f,t)])++kP p x.col.length D' (t+1):=by rw[i3];simp
     simp (disch:=omega) only[coC,qw,q1,go_sem]
     repeat' first
      |(refine cG (fun e=>c1 _) flk ?_;simp (disch:=omega) only[q2,go_sem])
      |with_reducible apply aiA
     all_goals try exact clz
     ·exact⟨.ready,ts,LI,kR hlen⟩
     ·refine kk.mono ?_ hb';rintro v h' ⟨hh',⟨rfl,hn',rfl⟩|⟨st,rfl,hs',rfl⟩⟩
      ·simp (disch:=omega) only[go_sem];refine hK _ _ ⟨t+1,D',pre++ [(f,t)],hh'⟩ ⟨by simp only;omega,by simp only;omega,i5,by simp only[lap,lco,lnl];exact hn'⟩ (by simp only;omega) (Wk.temps ?_)
       (simp only[coC,go_sem,qg,qc,qa,qf];try (repeat' first|(with_reducible apply aiA)|(apply qh;omega)|(apply qe;rfl)|exact qi))
      ·simp (disch:=omega) only[go_sem];obtain⟨r1,r2⟩:=(hE _ _ hs').ret (L:=LI) st hts;exact jC trivial r1 r2 ⟨_,.inr ⟨st,hs',rfl⟩⟩ (qi)
    ·have q2:((f:Int)<t)=False:=eqf om;rw[ine gt,lna]at hf;rw[hf]at i3;simp (disch:=omega) only[coC,qw,q1,go_sem]
     repeat' first
      |(refine cG (fun e=>c1 _) flk ?_;simp (disch:=omega) only[q2,go_sem])
      |with_reducible apply aiA
     all_goals try exact clz
     refine hK _ _ ⟨t+1,D',pre,hh⟩ ⟨by simp only;omega,by simp only;omega,i3,i4⟩ (by simp only;omega) (Wk.temps ?_)
     (simp only[coC,go_sem,qg,qc,qa,qf];try (repeat' first|(with_reducible apply aiA)|(apply qh;omega)|(apply qe;rfl)|exact qi))
  ·have q1:((t:Int)<x.col.length)=False:=eqf om;have hf:=fin fun hx=>absurd hx ht
   by_cases gt:f<t
   ·have q2:((f:Int)<t)=True:=eqt om;rw[ipo gt]at hf;rw[hf]at i3;obtain⟨hdl,hxx⟩:=hat (pre:=pre) (r:=(f,t)) (rest:=kP p x.col.length D' (t+1)) i3;have hb':=body pre.length hh [] hdl i4;rw[hxx]at hb';have i5:qd3 p x.col.length=(pre++ [(f,t)])++kP p x.col.length D' (t+1):=by rw[i3];simp
    simp (disch:=omega) only[coC,qw,q1,go_sem]
    repeat' first
     |(refine qj ( .bool false) ?_;simp (disch:=omega) only[q2,go_sem])
     |with_reducible apply aiA
    all_goals try exact clz
    ·exact⟨.ready,ts,LI,kR hlen⟩
    ·refine kk.mono ?_ hb';rintro v h' ⟨hh',⟨rfl,hn',rfl⟩|⟨st,rfl,hs',rfl⟩⟩
     ·simp (disch:=omega) only[go_sem];refine hK _ _ ⟨t+1,D',pre++ [(f,t)],hh'⟩ ⟨by simp only;omega,by simp only;omega,i5,by simp only[lap,lco,lnl];exact hn'⟩ (by simp only;omega) (Wk.temps ?_)
      (simp only[coC,go_sem,qg,qc,qa,qf];try (repeat' first|(with_reducible apply aiA)|(apply qh;omega)|(apply qe;rfl)|exact qi))
     ·simp (disch:=omega) only[go_sem];obtain⟨r1,r2⟩:=(hE _ _ hs').ret (L:=LI) st hts;exact jC trivial r1 r2 ⟨_,.inr ⟨st,hs',rfl⟩⟩ (qi)
   ·exact absurd (show f<t by omega) gt
 ·have q0:((f:Int)<x.col.length)=False:=eqf om;have hD:kP p x.col.length D f= []:=by
   cases D with
   |zero=>rfl
   |succ D=>unfold kP;rw[ipo om]
  rw[hD,lan]at i3;simp (disch:=omega) only[coC,qw,q0,go_sem]
  repeat' first
   |with_reducible apply aiA
  all_goals try exact clz
  obtain⟨r1,r2⟩:=(hS _ _ i4).ret (L:=LI) .ready hts;exact jC trivial r1 r2 ⟨hh,.inl ⟨by rw[hxl,i3];exact i4,rfl⟩⟩ (qi)
structure qik (l:List Un):Prop where
 n:l.length≤1000000000
 rd: ∀i,(l.getD i default).rds.length≤1000000000
 sr: ∀i j,((l.getD i default).rds.getD j default).src.length≤1000000000
 wd: ∀i j,((l.getD i default).rds.getD j default).words.length≤1000000000
structure qs6 (L:List Rd):Prop where
 n:L.length≤1000000000
 sr: ∀j,(L.getD j default).src.length≤1000000000
 wd: ∀j,(L.getD j default).words.length≤1000000000
theorem qEy(a b:List Str)(h:List AObj)(h1:a.length≤1000000000)(h2:b.length≤1000000000):ACalls Tryz.prog 36 [strs a,strs b] h (.bool (decide (a=b))) h:=by
 have c:=qCL a b.length (fun j=>b.getD j []) h h1 h2;have e:decide (a.length=b.length∧ ∀i,i<a.length→a.getD i []=b.getD i [])=decide (a=b):=decide_eq_decide.2 (qa9 ([]:Str)).symm;rw[e]at c;exact c
theorem qE4(a b:List Int)(h:List AObj)(h1:a.length≤1000000000)(h2:b.length≤1000000000):ACalls Tryz.prog 50 [qI a,qI b] h (.bool (decide (a=b))) h:=by
 have c:=qCJ qC0 a.length b.length (fun j=> .i (a.getD j 0)) (fun j=> .i (b.getD j 0)) h (fun _ _ _=>rfl) om om;simp only[At.v,At.i.injEq]at c;have e:decide (a.length=b.length∧ ∀i,i<a.length→a.getD i 0=b.getD i 0)=decide (a=b):=decide_eq_decide.2 (qa9 (0:Int)).symm;rw[e]at c;exact c
theorem qDz{r s:Rd}:r=s↔r.words=s.words∧r.src=s.src:=by
 cases r;cases s;simp
theorem qFF(r s:Rd)(h:List AObj)(h1:r.words.length≤1000000000)(h2:s.words.length≤1000000000)(h3:r.src.length≤1000000000)(h4:s.src.length≤1000000000):ACalls Tryz.prog 215 [.agg (rdC r),.agg (rdC s)] h (.bool (decide (r=s))) h:=by
 have c1:=fun h=>qEy r.words s.words h h1 h2
 have c2:=fun h=>qE4 r.src s.src h h3 h4
 have e:decide (r=s)=(decide (r.words=s.words)&&decide (r.src=s.src)):=by rw[←Bool.decide_and];exact decide_eq_decide.2 qDz
 rw[e];obtain⟨a,ha⟩: ∃a,a=decide (r.words=s.words):=⟨_,rfl⟩
 obtain⟨b,hb⟩: ∃b,b=decide (r.src=s.src):=⟨_,rfl⟩
 rw[←ha,←hb];simp only[←ha]at c1;simp only[←hb]at c2;cases a with
 |true=>
  rw[Bool.true_and];refine acO qsu ?_;simp (disch:=omega) only[qtv,rdC,go_sem]
  repeat' first
   |((first|refine cA (c1 _) ?_ ?_|refine cG (fun e=>c2 _) ?_ ?_);exact flk;simp (disch:=omega) only[go_sem])
   |(apply qb;exact rvk;simp only[go_sem];exact qi)
   |with_reducible apply aiA
  all_goals try exact clz
 |false=>
  rw[Bool.false_and];refine acO qsu ?_;simp (disch:=omega) only[qtv,rdC,go_sem]
  repeat' first
   |(refine qj ( .bool false) ?_;simp (disch:=omega) only[go_sem])
   |(refine cA (c1 _) flk ?_;simp (disch:=omega) only[go_sem])
   |(apply qb;exact rvk;simp only[go_sem];exact qi)
theorem efP(a b:List Rd)(h:List AObj)(za:qs6 a)(zb:qs6 b):ACalls Tryz.prog 214 [jV a,jV b,.fn (.func 215) [] []] h (.bool (decide (a=b))) h:=by
 have ha:=za.n;have hb:=zb.n;have he:decide (a=b)=decide (a.length=b.length∧ ∀i,i<a.length→a.getD i default=b.getD i default):=decide_eq_decide.2 (qa9 (default:Rd));obtain⟨R,hR⟩: ∃R,R=decide (a=b):=⟨_,rfl⟩
 rw[←hR]at he ⊢
 by_cases g:a.length=b.length
 case neg=>
  have k1:((a.length:Int)=b.length)=False:=eqf om;rw[dqf (fun hc=>g hc.1)]at he;rw[he];refine acO qst ?_;simp (disch:=omega) only[qtu,jV,k1,go_sem]
  repeat' first
   |(apply qb;exact rvk;simp only[go_sem];exact qi)
 have k1:((a.length:Int)=b.length)=True:=eqt om;refine acO qst ?_;simp (disch:=omega) only[qtu,jV,k1,go_sem];refine qu (T:=fun i:Nat×AObj×AObj=>ze 32 [(1,jV b),(2,.fn (.func 215) [] []),(15,jV a),(16,.int .i64 a.length),(17,.int .i64 i.1)]) (H:=fun i=>h++ [i.2.1,i.2.2])
  (inv:=fun i=>i.1≤a.length∧qJ [i.2.1] 0=true∧qJ [i.2.2] 0=true∧ ∀j,j<i.1→a.getD j default=b.getD j default) (m:=fun i=>a.length-i.1) (0,.emp 0,.emp 0) ⟨nzl _,rfl,rfl,fun j hj=>absurd hj (nnz j)⟩ (Wk.temps ?_) ?_
 ·(simp only[jV,go_sem,qg,qc,qa,qf];try (repeat' first|(with_reducible apply aiA)|(apply qh;omega)|(apply qe;rfl)|exact qi))
 rintro⟨i,O1,O2⟩ ⟨i1,j1,j2,i2⟩ K hK;simp only at i1 j1 j2 i2 hK;have j1': ∀m,qJ (O1::m) 0=true:=fun _=>j1
 have j2': ∀m,qJ (O2::m) 0=true:=fun _=>j2
 by_cases hi:i<a.length
 ·have k2:((i:Int)<a.length)=True:=eqt om;have k3:((i:Int)<b.length)=True:=eqt om;have c1:=fun h=>qFF (a.getD i default) (b.getD i default) h (za.wd i) (zb.wd i) (za.sr i) (zb.sr i)
  have hno: ¬a.getD i default=b.getD i default→R=false:=fun hx=>by rw[he];exact dqf fun hc=>hx (hc.2 i hi)
  have hS:a.getD i default=b.getD i default→ ∀j,j<i+1→a.getD j default=b.getD j default:=fun hx j hj=>by
   by_cases e:j=i
   ·subst e;exact hx
   ·exact i2 j om
  obtain⟨r,hr⟩: ∃r,r=a.getD i default:=⟨_,rfl⟩
  obtain⟨s,hs⟩: ∃s,s=b.getD i default:=⟨_,rfl⟩
  have er:=hr.symm;have es:=hs.symm;rw[er,es]at hno hS;simp only[er,es]at c1;unfold rdC at c1
  by_cases g2:r=s
  ·have k4:decide (r=s)=true:=dqt g2;simp only[k4]at c1;simp (disch:=omega) only[jV,rdC,k2,k3,er,es,j1',j2',go_sem]
   repeat' first
    |(refine qy (c1 _) ?_;simp (disch:=omega) only[go_sem])
    |with_reducible apply aiA
   all_goals try exact clz
   refine hK _ _ (i+1,_,_) ⟨hi,rfl,rfl,hS g2⟩ (by simp only;omega) (Wk.temps ?_)
   (simp only[jV,go_sem,qg,qc,qa,qf];try (repeat' first|(with_reducible apply aiA)|(apply qh;omega)|(apply qe;rfl)|exact qi))
  ·have k4:decide (r=s)=false:=dqf g2;simp only[k4]at c1;rw[hno g2];simp (disch:=omega) only[jV,rdC,k2,k3,er,es,j1',j2',go_sem]
   repeat' first
    |(refine qy (c1 _) ?_;simp (disch:=omega) only[go_sem])
    |(apply qb;exact rvk;simp only[go_sem];exact qi)
    |with_reducible apply aiA
   all_goals try exact clz
 ·have k2:((i:Int)<a.length)=False:=eqf om;rw[he,dqt ⟨g,fun j hj=>i2 j om⟩];simp (disch:=omega) only[jV,k2,go_sem]
  repeat' first
   |(apply qb;exact rvk;simp only[go_sem];exact qi)
theorem qFG(a b:List Rd)(h:List AObj)(za:qs6 a)(zb:qs6 b):ACalls Tryz.prog 166 [jV a,jV b] h (.bool (decide (a=b))) h:=by
 have c1:=fun h=>efP a b h za zb
 refine acO qyV ?_;simp (disch:=omega) only[qxm,go_sem]
 repeat' first
  |(refine cA (c1 _) flk ?_;simp (disch:=omega) only[go_sem])
  |(apply qd;exact rvk;simp only[go_sem];exact qi)
theorem qFx(r s:Rd)(h:List AObj)(h1:r.words.length≤1000000000)(h2:s.words.length≤1000000000):ACalls Tryz.prog 143 [.agg (rdC r),.agg (rdC s)] h (.bool (decide (r.words=s.words))) h:=by
 have c1:=fun h=>qEy r.words s.words h h1 h2
 refine acO qyN ?_;simp (disch:=omega) only[qxf,rdC,go_sem]
 repeat' first
  |(refine cA (c1 _) flk ?_;simp (disch:=omega) only[go_sem])
  |(apply qb;exact rvk;simp only[go_sem];exact qi)
theorem fd1(r y:Rd)(h:List AObj)(h1:r.words.length≤1000000000)(h2:y.words.length≤1000000000):ACalls Tryz.prog 186 [.agg (rdC y),.ip [.fn (.func 143) [] []],.ip (rdC r)] h (.bool (decide (r.words=y.words))) h:=by
 have c1:=fun h=>qFx r y h h1 h2
 unfold rdC at c1;refine acO qy7 ?_;simp (disch:=omega) only[qxx,rdC,go_sem]
 repeat' first
  |(refine qy (c1 _) ?_;simp (disch:=omega) only[go_sem])
  |(apply qb;exact rvk;simp only[go_sem];exact qi)
  |with_reducible apply aiA
 all_goals try exact clz
theorem fdP(L:List Rd)(r:Rd)(h:List AObj)(hL:L.length≤1000000000)(h1:r.words.length≤1000000000)(h2: ∀j,(L.getD j default).words.length≤1000000000):ACalls Tryz.prog 142 [jV L,.agg (rdC r),.fn (.func 143) [] []] h (.int .i64 (qjW L r.words)) h:=by
 have c1: ∀k v k2 v2 H,qr k H=some (.mem v 87 (rdC r))→qr k2 H=some (.mem v2 181 [.fn (.func 143) [] []])→
   ACalls Tryz.prog 104 [jV L,.fn (.func 186) [] [.op k2 v2 0,.op k v 0]] H (.int .i64 (qjW L r.words)) H:=fun k v k2 v2 H hk hk2=>by
  have hc:=qP hk;have hc2:=qP hk2;unfold jV qjW;refine qgv qyy L.length (fun j=>rdC (L.getD j default)) (fun j=> .agg (rdC (L.getD j default))) _ [] [.op k2 v2 0,.op k v 0] _ H (fun i _=>⟨rfl,by simp[kB,rdC],rfl,rfl,rfl⟩) (fun i _=> ?_) om;refine ACalls.borrow ?_ rfl;have e:([AV.agg (rdC (L.getD i default))]++ [AV.op k2 v2 0,AV.op k v 0]).map (rei (fun _=>true) H 8)= [.agg (rdC (L.getD i default)),.ip [.fn (.func 143) [] []],.ip (rdC r)]:=by
   simp only[lca,lna,List.map_cons,List.map_nil,rei_op,if_true,hc,hc2,ipOf_some,List.drop_zero,rei_agg];rfl
  rw[lna,e];exact fd1 r _ _ h1 (h2 i)
 have c2:=c1 h.length 1 (h.length+1) 1 (h++ [.mem 1 87 (rdC r),.mem 1 181 [.fn (.func 143) [] []]]) (by rw[getO_app0];rfl) (by simp only[go_sem]);unfold rdC at c2;refine acO qyM ?_;simp (disch:=omega) only[qxe,rdC,go_sem]
 repeat' first
  |(refine cA (c2) flk ?_;simp (disch:=omega) only[go_sem])
  |(apply qb;exact rvk;simp only[go_sem];exact qi)
def gnB(sec:Str)(sig:List Str):Bool:=ju (fun i=>decide (20<(sig.getD i []).length)) sig.length||decide (20<sec.length)
theorem gnP(sec:Str)(sig:List Str)(h:List AObj)(hn:sig.length≤9223372036854775807):ACalls Tryz.prog 85 [.str sec,strs sig] h (.bool (gnB sec sig)) h:=by
 obtain⟨R,hR⟩: ∃R,R=gnB sec sig:=⟨_,rfl⟩
 rw[←hR];unfold gnB at hR;refine acO qC4 ?_;simp (disch:=omega) only[qEp,strs,go_sem];refine qu (T:=fun i:Nat=>ze 21 [(0,.str sec),(1,strs sig),(5,.int .i64 i)]) (H:=fun _=>h) (inv:=fun i=>i≤sig.length∧ ∀j,j<i→(fun i=>decide (20<(sig.getD i []).length)) j=false) (m:=fun i=>sig.length-i) 0 ⟨nzl _,fun j hj=>absurd hj (nnz j)⟩ (Wk.temps ?_) ?_
 ·(simp only[strs,go_sem,qg,qc,qa,qf];try (repeat' first|(with_reducible apply aiA)|(apply qh;omega)|(apply qe;rfl)|exact qi))
 rintro i ⟨i1,i2⟩ K hK
 by_cases hi:i<sig.length
 ·have k1:((i:Int)<sig.length)=True:=eqt om
  by_cases g:20<(sig.getD i []).length
  ·have hV:R=true:=by rw[hR,qR.2 ⟨i,hi,dqt g⟩];rfl
   obtain⟨s,hs⟩: ∃s,s=sig.getD i []:=⟨_,rfl⟩
   have es:=hs.symm;rw[es]at g;have k2:((20:Int)<s.length)=True:=eqt om;rw[hV];simp (disch:=omega) only[strs,k1,k2,es,go_sem]
   repeat' first
    |(apply qd;exact rvk;simp only[go_sem];exact qi)
    |with_reducible apply aiA
   all_goals try exact clz
  ·have i3:=kq i2 (dqf g);obtain⟨s,hs⟩: ∃s,s=sig.getD i []:=⟨_,rfl⟩
   have es:=hs.symm;rw[es]at g;have k2:((20:Int)<s.length)=False:=eqf om;simp (disch:=omega) only[strs,k1,k2,es,go_sem]
   repeat' first
    |with_reducible apply aiA
   all_goals try exact clz
   refine hK _ _ (i+1) ⟨hi,i3⟩ om (Wk.temps ?_)
   (simp only[strs,go_sem,qg,qc,qa,qf];try (repeat' first|(with_reducible apply aiA)|(apply qh;omega)|(apply qe;rfl)|exact qi))
 have k1:((i:Int)<sig.length)=False:=eqf om;rw[qt.2 (fun j hj=>i2 j om),Bool.false_or]at hR;have e1:decide ((20:Int)<sec.length)=decide (20<sec.length):=decide_eq_decide.2 om;rw[hR,←e1];simp (disch:=omega) only[strs,k1,go_sem]
 repeat' first
  |(apply qd;exact rvk;simp only[go_sem];exact qi)
def qcg(t:Tk):Bool:=decide (12<t.text.length)||(decide (12<t.norm.length)||(decide (20<t.page.length)||decide (20<t.name.length)))
def qdu(i:Nat)(r:List Tk):Bool:=decide (6<r.length)||((decide (4≤i)&&decide (1<r.length))||ju (fun k=>qcg (r.getD k default)) r.length)
def prN(L:List (List Tk)):Nat→Nat
 |0=>1
 |i+1=>if i<4 then prN L i*((L.getD i []).length+1) else prN L i
def gtB(L:List (List Tk)):Bool:=ju (fun i=>qdu i (L.getD i [])) L.length||(decide (400<prN L L.length)||((decide (6<L.length)&&decide (L.length≤32))||decide (34<L.length)))
theorem qAy{L:List (List Tk)}: ∀ {n:Nat},(∀i,i<n→(L.getD i []).length≤6)→prN L n≤7^min n 4:=by
 intro n
 induction n with
 |zero=>intro _;exact nlr _
 |succ n ih=>
  intro h;have h1:=ih fun i hi=>h i om
  have h2:=h n om;unfold prN;split
  ·rename_i g;rw[show min n 4=n by omega]at h1;rw[show min (n+1) 4=n+1 by omega,Nat.pow_succ];exact Nat.mul_le_mul h1 om
  ·rename_i g;rw[show min n 4=4 by omega]at h1;rw[show min (n+1) 4=4 by omega];exact h1
theorem gtP(L:List (List Tk))(h:List AObj)(hn:L.length≤9223372036854775807):ACalls Tryz.prog 84 [qm L] h (.bool (gtB L)) h:=by
 obtain⟨R,hR⟩: ∃R,R=gtB L:=⟨_,rfl⟩
 rw[←hR];unfold gtB at hR;refine acO qC3 ?_;simp (disch:=omega) only[qEo,qm,go_sem];refine qu (T:=fun i:Nat×AObj=>ze 97 [(0,qm L),(3,.int .i64 (prN L i.1:Int)),(4,.int .i64 i.1)]) (H:=fun i=>h++ [i.2]) (inv:=fun i=>i.1≤L.length∧qJ [i.2] 0=true∧ ∀j,j<i.1→(fun i=>qdu i (L.getD i [])) j=false) (m:=fun i=>L.length-i.1) (0,.emp 0) ⟨nzl _,rfl,fun j hj=>absurd hj (nnz j)⟩ (Wk.temps ?_) ?_
 ·(simp only[qm,prN,go_sem,qg,qc,qa,qf];try (repeat' first|(with_reducible apply aiA)|(apply qh;omega)|(apply qe;rfl)|exact qi))
 rintro⟨i,O⟩ ⟨i1,i2,i3⟩ K hK;simp only at i1 i2 i3 hK;have i2': ∀m,qJ (O::m) 0=true:=fun _=>i2
 have h6: ∀j,j<i→(L.getD j []).length≤6:=fun j hj=>by
  have:=i3 j hj
  unfold qdu at this;simp only[Bool.or_eq_false_iff,decide_eq_false_iff_not]at this;omega
 have hp:=qAy h6;have hp2:prN L i≤2401:=by
  have:7^min i 4≤7^4:=Nat.pow_le_pow_right om (Nat.min_le_right _ _)
  have h3:(7:Nat)^4=2401:=rfl;omega
 have hst:prN L (i+1)=if i<4 then prN L i*((L.getD i []).length+1) else prN L i:=rfl
 obtain⟨q,hq⟩: ∃q,q=prN L i:=⟨_,rfl⟩
 have eq:=hq.symm;rw[eq]at hp2 hst
 by_cases hi:i<L.length
 ·have k1:((i:Int)<L.length)=True:=eqt om;have hit:qdu i (L.getD i [])=true→R=true:=fun hc=>by rw[hR,qR.2 ⟨i,hi,hc⟩];rfl
  have i4:=fun hc=>kq (p:=fun i=>qdu i (L.getD i [])) i3 hc
  obtain⟨r,hr⟩: ∃r,r=L.getD i []:=⟨_,rfl⟩
  have er:=hr.symm;rw[er]at hst hit;simp only[er]at i4;have hB:qdu i r=(decide (6<r.length)||((decide (4≤i)&&decide (1<r.length))||ju (fun k=>qcg (r.getD k default)) r.length)):=rfl
  by_cases g1:6<r.length
  ·have k2:((6:Int)<r.length)=True:=eqt om;rw[hit (by rw[hB,dqt g1];rfl)];simp (disch:=omega) only[qm,zT,k1,k2,er,eq,go_sem]
   repeat' first
    |(apply qb;exact rvk;simp only[go_sem];exact qi)
    |with_reducible first|intro _|apply aiA
   all_goals try exact clz
  have k2:((6:Int)<r.length)=False:=eqf om;rw[dqf g1,Bool.false_or]at hB;have hq':q*(r.length+1)≤2401*7:=Nat.mul_le_mul hp2 om;have hmul:(q:Int)*((r.length:Int)+1)=((q*(r.length+1):Nat):Int):=by push_cast;rfl
  have m2:(((q*(r.length+1):Nat):Int)≤9223372036854775807)=True:=eqt om;have m3:(-9223372036854775808≤((q*(r.length+1):Nat):Int))=True:=eqt om
  by_cases gg:4≤i∧1<r.length
  ·have k3:((4:Int)≤i)=True:=eqt om;have k5:((1:Int)<r.length)=True:=eqt om;rw[hit (by rw[hB,dqt gg.1,dqt gg.2];rfl)];simp (disch:=omega) only[qm,zT,k1,k2,k3,k5,er,eq,go_sem]
   repeat' first
    |(apply qb;exact rvk;simp only[go_sem];exact qi)
    |with_reducible apply aiA
   all_goals try exact clz
  have hB':qdu i r=ju (fun k=>qcg (r.getD k default)) r.length:=by
   rw[hB]
   have:(decide (4≤i)&&decide (1<r.length))=false:=by
    rw[←Bool.decide_and];exact dqf gg
   rw[this,Bool.false_or]
  rcases Nat.lt_or_ge i 4 with gi|gi
  ·have k3:((4:Int)≤i)=False:=eqf om;have k4:((i:Int)<4)=True:=eqt om;rw[ipo gi]at hst;simp (disch:=omega) only[qm,zT,k1,k2,k3,k4,er,eq,hmul,go_sem]
   repeat' first
    |(apply qb;exact rvk;simp only[go_sem];apply qe)
    |with_reducible first|intro _|apply aiA
   all_goals try exact clz
   refine qu (T:=fun k:Nat×AObj=>ze 97 [(0,qm L),(3,.int .i64 ((q*(r.length+1):Nat):Int)),(4,.int .i64 i),(5,.int .i64 k.1)]) (H:=fun k=>h++ [k.2]) (inv:=fun k=>k.1≤r.length∧qJ [k.2] 0=true∧ ∀j,j<k.1→(fun k=>qcg (r.getD k default)) j=false) (m:=fun k=>r.length-k.1) (0,O) ⟨nzl _,i2,fun j hj=>absurd hj (nnz j)⟩ (Wk.temps ?_) ?_
   ·(simp only[qm,go_sem,qg,qc,qa,qf];try (repeat' first|(with_reducible apply aiA)|(apply qh;omega)|(apply qe;rfl)|exact qi))
   rintro⟨k,O'⟩ ⟨u1,u2,u3⟩ K2 hK2;simp only at u1 u2 u3 hK2;have u2': ∀m,qJ (O'::m) 0=true:=fun _=>u2
   by_cases hk:k<r.length
   ·have t1:((k:Int)<r.length)=True:=eqt om;have hbit:qcg (r.getD k default)=true→R=true:=fun hc=>hit (by rw[hB',qR];exact⟨k,hk,hc⟩)
    have u4:=fun hc=>kq (p:=fun k=>qcg (r.getD k default)) u3 hc
    obtain⟨t,ht⟩: ∃t,t=r.getD k default:=⟨_,rfl⟩
    have et:=ht.symm;rw[et]at hbit;simp only[et]at u4;have hT:qcg t=(decide (12<t.text.length)||(decide (12<t.norm.length)||(decide (20<t.page.length)||decide (20<t.name.length)))):=rfl
    by_cases gA:12<t.text.length
    ·have qA:((12:Int)<t.text.length)=True:=eqt om;rw[hbit (by rw[hT,dqt gA];simp)];simp (disch:=omega) only[qm,zT,tkC,k1,t1,er,et,u2',qA,go_sem]
     repeat' first
      |(apply qb;exact rvk;simp only[go_sem];exact qi)
      |with_reducible apply aiA
     all_goals try exact clz
    have qA:((12:Int)<t.text.length)=False:=eqf om
    by_cases gB:12<t.norm.length
    ·have qB:((12:Int)<t.norm.length)=True:=eqt om;rw[hbit (by rw[hT,dqt gB];simp)];simp (disch:=omega) only[qm,zT,tkC,k1,t1,er,et,u2',qA,qB,go_sem]
     repeat' first
      |(apply qb;exact rvk;simp only[go_sem];exact qi)
      |with_reducible apply aiA
     all_goals try exact clz
    have qB:((12:Int)<t.norm.length)=False:=eqf om
    by_cases gC:20<t.page.length
    ·have qC:((20:Int)<t.page.length)=True:=eqt om;rw[hbit (by rw[hT,dqt gC];simp)];simp (disch:=omega) only[qm,zT,tkC,k1,t1,er,et,u2',qA,qB,qC,go_sem]
     repeat' first
      |(apply qb;exact rvk;simp only[go_sem];exact qi)
      |with_reducible apply aiA
     all_goals try exact clz
    have qC:((20:Int)<t.page.length)=False:=eqf om
    by_cases gD:20<t.name.length
    ·have qD:((20:Int)<t.name.length)=True:=eqt om;rw[hbit (by rw[hT,dqt gD];simp)];simp (disch:=omega) only[qm,zT,tkC,k1,t1,er,et,u2',qA,qB,qC,qD,go_sem]
     repeat' first
      |(apply qb;exact rvk;simp only[go_sem];exact qi)
      |with_reducible apply aiA
     all_goals try exact clz
    have qD:((20:Int)<t.name.length)=False:=eqf om;simp (disch:=omega) only[qm,zT,tkC,k1,t1,er,et,u2',qA,qB,qC,qD,go_sem]
    repeat' first
     |with_reducible apply aiA
    all_goals try exact clz
    refine hK2 _ _ (k+1,_) ⟨hk,rfl,u4 (by rw[hT,dqf gA,dqf gB,dqf gC,dqf gD];rfl)⟩ (by simp only;omega) (Wk.temps ?_)
    (simp only[qm,zT,tkC,go_sem,qg,qc,qa,qf];try (repeat' first|(with_reducible apply aiA)|(apply qh;omega)|(apply qe;rfl)|exact qi))
   ·have t1:((k:Int)<r.length)=False:=eqf om;have hz:qdu i r=false:=by rw[hB',qt];exact fun j hj=>u3 j om
    simp (disch:=omega) only[qm,zT,t1,er,go_sem]
    repeat' first
     |with_reducible apply aiA
    all_goals try exact clz
    refine hK _ _ (i+1,O') ⟨hi,u2,i4 hz⟩ (by simp only;omega) ?_;simp only[hst];refine Wk.temps ?_
    (simp only[qm,go_sem,qg,qc,qa,qf];try (repeat' first|(with_reducible apply aiA)|(apply qh;omega)|(apply qe;rfl)|exact qi))
  ·have k3:((4:Int)≤i)=True:=eqt om;have k4:((i:Int)<4)=False:=eqf om;have k5:((1:Int)<r.length)=False:=eqf om;rw[ine om]at hst;simp (disch:=omega) only[qm,zT,k1,k2,k3,k4,k5,er,eq,hmul,go_sem]
   repeat' first
    |with_reducible apply aiA
   all_goals try exact clz
   refine qu (T:=fun k:Nat×AObj=>ze 97 [(0,qm L),(3,.int .i64 (q:Int)),(4,.int .i64 i),(5,.int .i64 k.1)]) (H:=fun k=>h++ [k.2]) (inv:=fun k=>k.1≤r.length∧qJ [k.2] 0=true∧ ∀j,j<k.1→(fun k=>qcg (r.getD k default)) j=false) (m:=fun k=>r.length-k.1) (0,O) ⟨nzl _,i2,fun j hj=>absurd hj (nnz j)⟩ (Wk.temps ?_) ?_
   ·(simp only[qm,go_sem,qg,qc,qa,qf];try (repeat' first|(with_reducible apply aiA)|(apply qh;omega)|(apply qe;rfl)|exact qi))
   rintro⟨k,O'⟩ ⟨u1,u2,u3⟩ K2 hK2;simp only at u1 u2 u3 hK2;have u2': ∀m,qJ (O'::m) 0=true:=fun _=>u2
   by_cases hk:k<r.length
   ·have t1:((k:Int)<r.length)=True:=eqt om;have hbit:qcg (r.getD k default)=true→R=true:=fun hc=>hit (by rw[hB',qR];exact⟨k,hk,hc⟩)
    have u4:=fun hc=>kq (p:=fun k=>qcg (r.getD k default)) u3 hc
    obtain⟨t,ht⟩: ∃t,t=r.getD k default:=⟨_,rfl⟩
    have et:=ht.symm;rw[et]at hbit;simp only[et]at u4;have hT:qcg t=(decide (12<t.text.length)||(decide (12<t.norm.length)||(decide (20<t.page.length)||decide (20<t.name.length)))):=rfl
    by_cases gA:12<t.text.length
    ·have qA:((12:Int)<t.text.length)=True:=eqt om;rw[hbit (by rw[hT,dqt gA];simp)];simp (disch:=omega) only[qm,zT,tkC,k1,t1,er,et,u2',qA,go_sem]
     repeat' first
      |(apply qb;exact rvk;simp only[go_sem];exact qi)
      |with_reducible apply aiA
     all_goals try exact clz
    have qA:((12:Int)<t.text.length)=False:=eqf om
    by_cases gB:12<t.norm.length
    ·have qB:((12:Int)<t.norm.length)=True:=eqt om;rw[hbit (by rw[hT,dqt gB];simp)];simp (disch:=omega) only[qm,zT,tkC,k1,t1,er,et,u2',qA,qB,go_sem]
     repeat' first
      |(apply qb;exact rvk;simp only[go_sem];exact qi)
      |with_reducible apply aiA
     all_goals try exact clz
    have qB:((12:Int)<t.norm.length)=False:=eqf om
    by_cases gC:20<t.page.length
    ·have qC:((20:Int)<t.page.length)=True:=eqt om;rw[hbit (by rw[hT,dqt gC];simp)];simp (disch:=omega) only[qm,zT,tkC,k1,t1,er,et,u2',qA,qB,qC,go_sem]
     repeat' first
      |(apply qb;exact rvk;simp only[go_sem];exact qi)
      |with_reducible apply aiA
     all_goals try exact clz
    have qC:((20:Int)<t.page.length)=False:=eqf om
    by_cases gD:20<t.name.length
    ·have qD:((20:Int)<t.name.length)=True:=eqt om;rw[hbit (by rw[hT,dqt gD];simp)];simp (disch:=omega) only[qm,zT,tkC,k1,t1,er,et,u2',qA,qB,qC,qD,go_sem]
     repeat' first
      |(apply qb;exact rvk;simp only[go_sem];exact qi)
      |with_reducible apply aiA
     all_goals try exact clz
    have qD:((20:Int)<t.name.length)=False:=eqf om;simp (disch:=omega) only[qm,zT,tkC,k1,t1,er,et,u2',qA,qB,qC,qD,go_sem]
    repeat' first
     |with_reducible apply aiA
    all_goals try exact clz
    refine hK2 _ _ (k+1,_) ⟨hk,rfl,u4 (by rw[hT,dqf gA,dqf gB,dqf gC,dqf gD];rfl)⟩ (by simp only;omega) (Wk.temps ?_)
    (simp only[qm,zT,tkC,go_sem,qg,qc,qa,qf];try (repeat' first|(with_reducible apply aiA)|(apply qh;omega)|(apply qe;rfl)|exact qi))
   ·have t1:((k:Int)<r.length)=False:=eqf om;have hz:qdu i r=false:=by rw[hB',qt];exact fun j hj=>u3 j om
    simp (disch:=omega) only[qm,zT,t1,er,go_sem]
    repeat' first
     |with_reducible apply aiA
    all_goals try exact clz
    refine hK _ _ (i+1,O') ⟨hi,u2,i4 hz⟩ (by simp only;omega) ?_;simp only[hst];refine Wk.temps ?_
    (simp only[qm,go_sem,qg,qc,qa,qf];try (repeat' first|(with_reducible apply aiA)|(apply qh;omega)|(apply qe;rfl)|exact qi))
 have k1:((i:Int)<L.length)=False:=eqf om;obtain rfl:i=L.length:=by omega
 rw[qt.2 (fun j hj=>i3 j hj),Bool.false_or,←hq]at hR
 by_cases g1:400<q
 ·have k2:((400:Int)<q)=True:=eqt om;rw[hR,dqt g1,Bool.true_or];simp (disch:=omega) only[qm,k1,k2,eq,go_sem]
  repeat' first
   |(apply qb;exact rvk;simp only[go_sem];exact qi)
 have k2:((400:Int)<q)=False:=eqf om;rw[dqf g1,Bool.false_or]at hR
 by_cases g2:6<L.length
 ·have k3:((6:Int)<L.length)=True:=eqt om
  by_cases g3:L.length≤32
  ·have k4:((L.length:Int)≤32)=True:=eqt om;rw[hR,dqt g2,dqt g3];simp (disch:=omega) only[qm,k1,k2,k3,k4,eq,go_sem]
   repeat' first
    |(apply qb;exact rvk;simp only[go_sem];exact qi)
  have k4:((L.length:Int)≤32)=False:=eqf om;have e1:decide ((34:Int)<L.length)=decide (34<L.length):=decide_eq_decide.2 om;rw[hR,dqt g2,dqf g3,←e1];simp (disch:=omega) only[qm,k1,k2,k3,k4,eq,go_sem]
  repeat' first
   |(apply qb;exact rvk;simp only[go_sem];exact qi)
 have k3:((6:Int)<L.length)=False:=eqf om;have e1:decide ((34:Int)<L.length)=decide (34<L.length):=decide_eq_decide.2 om;rw[hR,dqf g2,←e1];simp (disch:=omega) only[qm,k1,k2,k3,eq,go_sem]
 repeat' first
  |(apply qb;exact rvk;simp only[go_sem];exact qi)
structure CoB (x:Co):Prop where
 sg:x.sig.length≤9223372036854775807
 tk:x.tok.length≤9223372036854775807
 cl:x.col.length≤9223372036854775807
def qux(x:Co):Bool:=ju (fun i=>decide (36<(x.col.getD i []).length)) x.col.length||(gtB x.tok||(decide (24<x.col.length)||(decide (36<x.sig.length)||gnB x.sec x.sig)))
theorem qFa(x:Co)(h:List AObj)(hb:CoB x):ACalls Tryz.prog 28 [.agg (coC x)] h (.bool (qux x)) h:=by
 have c1:=fun h=>gtP x.tok h hb.tk
 have c2:=fun h=>gnP x.sec x.sig h hb.sg
 have hc:=hb.cl;obtain⟨R,hR⟩: ∃R,R=qux x:=⟨_,rfl⟩
 rw[←hR];unfold qux at hR;unfold qm at c1;unfold strs at c2;refine acO qCU ?_;simp (disch:=omega) only[qEh,coC,qw,go_sem];refine qu (T:=fun i:Nat=>ze 40 [(1,.op h.length 1 0),(3,.int .i64 i)]) (H:=fun _=>h++ [.mem 1 26 (coC x)]) (inv:=fun i=>i≤x.col.length∧ ∀j,j<i→(fun i=>decide (36<(x.col.getD i []).length)) j=false) (m:=fun i=>x.col.length-i) 0 ⟨nzl _,fun j hj=>absurd hj (nnz j)⟩ (Wk.temps ?_) ?_
 ·(simp only[go_sem,qg,qc,qa,qf];try (repeat' first|(with_reducible apply aiA)|(apply qh;omega)|(apply qe;rfl)|exact qi))
 rintro i ⟨i1,i2⟩ K hK
 by_cases hi:i<x.col.length
 ·have k1:((i:Int)<x.col.length)=True:=eqt om
  by_cases g:36<(x.col.getD i []).length
  ·have hV:R=true:=by rw[hR,qR.2 ⟨i,hi,dqt g⟩];rfl
   obtain⟨s,hs⟩: ∃s,s=x.col.getD i []:=⟨_,rfl⟩
   have es:=hs.symm;rw[es]at g;have k2:((36:Int)<s.length)=True:=eqt om;rw[hV];simp (disch:=omega) only[coC,qw,qI,k1,k2,es,go_sem]
   repeat' first
    |(apply qb;exact rvk;simp only[go_sem];exact qi)
    |with_reducible apply aiA
   all_goals try exact clz
  ·have i3:=kq i2 (dqf g);obtain⟨s,hs⟩: ∃s,s=x.col.getD i []:=⟨_,rfl⟩
   have es:=hs.symm;rw[es]at g;have k2:((36:Int)<s.length)=False:=eqf om;simp (disch:=omega) only[coC,qw,qI,k1,k2,es,go_sem]
   repeat' first
    |with_reducible apply aiA
   all_goals try exact clz
   refine hK _ _ (i+1) ⟨hi,i3⟩ om (Wk.temps ?_)
   (simp only[go_sem,qg,qc,qa,qf];try (repeat' first|(with_reducible apply aiA)|(apply qh;omega)|(apply qe;rfl)|exact qi))
 have k1:((i:Int)<x.col.length)=False:=eqf om;rw[qt.2 (fun j hj=>i2 j om),Bool.false_or]at hR;cases gA:gtB x.tok with
 |true=>
  rw[gA]at hR c1;rw[hR,Bool.true_or];simp (disch:=omega) only[coC,qw,k1,qm,go_sem]
  repeat' first
   |(refine qj ( .bool false) ?_;simp (disch:=omega) only[go_sem])
   |(refine cA (c1 _) flk ?_;simp (disch:=omega) only[go_sem])
   |(apply qb;exact rvk;simp only[go_sem];exact qi)
   |with_reducible apply aiA
  all_goals try exact clz
 |false=>
 rw[gA]at hR c1;rw[Bool.false_or]at hR
 by_cases g2:24<x.col.length
 ·have k2:((24:Int)<x.col.length)=True:=eqt om;rw[hR,dqt g2,Bool.true_or];simp (disch:=omega) only[coC,qw,k1,qm,go_sem]
  repeat' first
   |(refine qj ( .bool false) ?_;simp (disch:=omega) only[go_sem])
   |(refine cA (c1 _) flk ?_;simp (disch:=omega) only[k2,go_sem])
   |(apply qb;exact rvk;simp only[go_sem];exact qi)
   |with_reducible apply aiA
  all_goals try exact clz
 have k2:((24:Int)<x.col.length)=False:=eqf om;rw[dqf g2,Bool.false_or]at hR
 by_cases g3:36<x.sig.length
 ·have k3:((36:Int)<x.sig.length)=True:=eqt om;rw[hR,dqt g3,Bool.true_or];simp (disch:=omega) only[coC,qw,k1,qm,strs,go_sem]
  repeat' first
   |(refine qj ( .bool false) ?_;simp (disch:=omega) only[go_sem])
   |(refine cA (c1 _) flk ?_;simp (disch:=omega) only[k2,k3,go_sem])
   |(apply qb;exact rvk;simp only[go_sem];exact qi)
   |with_reducible apply aiA
  all_goals try exact clz
 have k3:((36:Int)<x.sig.length)=False:=eqf om;rw[dqf g3,Bool.false_or]at hR;rw[hR];simp (disch:=omega) only[coC,qw,k1,qm,strs,go_sem]
 repeat' first
  |((first|refine cA (c1 _) ?_ ?_|refine cG (fun e=>c2 _) ?_ ?_);exact flk;simp (disch:=omega) only[k2,k3,go_sem])
  |(apply qb;exact rvk;simp only[go_sem];exact qi)
  |with_reducible apply aiA
 all_goals try exact clz
def guR(u:Un)(k:Nat):Bool:=decide (8<(u.rds.getD k default).src.length)||gwB (u.rds.getD k default).words 8
def guB(u:Un):Bool:=decide (6<u.rds.length)||ju (guR u) u.rds.length
def quy(l:List Un):Bool:=ju (fun i=>guB (l.getD i default)) l.length||decide (12<l.length)
structure UnB (l:List Un):Prop where
 n:l.length≤9223372036854775807
 rd: ∀i,(l.getD i default).rds.length≤9223372036854775807
 wd: ∀i j,((l.getD i default).rds.getD j default).words.length≤9223372036854775807
theorem qFb(l:List Un)(h:List AObj)(hb:UnB l):ACalls Tryz.prog 97 [zS l] h (.bool (quy l)) h:=by
 have hn:=hb.n;obtain⟨R,hR⟩: ∃R,R=quy l:=⟨_,rfl⟩
 rw[←hR];unfold quy at hR;refine acO qDa ?_;simp (disch:=omega) only[qEv,zS,go_sem];refine qu (T:=fun i:Nat=>ze 54 [(0,zS l),(3,.int .i64 i)]) (H:=fun _=>h) (inv:=fun i=>i≤l.length∧ ∀j,j<i→(fun i=>guB (l.getD i default)) j=false) (m:=fun i=>l.length-i) 0 ⟨nzl _,fun j hj=>absurd hj (nnz j)⟩ (Wk.temps ?_) ?_
 ·(simp only[zS,go_sem,qg,qc,qa,qf];try (repeat' first|(with_reducible apply aiA)|(apply qh;omega)|(apply qe;rfl)|exact qi))
 rintro i ⟨i1,i2⟩ K hK
 by_cases hi:i<l.length
 ·have k1:((i:Int)<l.length)=True:=eqt om;have hit:guB (l.getD i default)=true→R=true:=fun hc=>by rw[hR,qR.2 ⟨i,hi,hc⟩];rfl
  have i3:=fun hc=>kq (p:=fun i=>guB (l.getD i default)) i2 hc
  have hrd:=hb.rd i;have hwd:=hb.wd i;obtain⟨u,hu⟩: ∃u,u=l.getD i default:=⟨_,rfl⟩
  have eu:=hu.symm;rw[eu]at hit hrd;simp only[eu]at i3 hwd;have hB:guB u=(decide (6<u.rds.length)||ju (guR u) u.rds.length):=rfl
  by_cases g1:6<u.rds.length
  ·have k2:((6:Int)<u.rds.length)=True:=eqt om;rw[hit (by rw[hB,dqt g1];rfl)];simp (disch:=omega) only[zS,unC,jV,k1,k2,eu,go_sem]
   repeat' first
    |(apply qd;exact rvk;simp only[go_sem];exact qi)
    |with_reducible apply aiA
   all_goals try exact clz
  have k2:((6:Int)<u.rds.length)=False:=eqf om;rw[dqf g1,Bool.false_or]at hB;simp (disch:=omega) only[zS,unC,jV,k1,k2,eu,go_sem]
  repeat' first
   |with_reducible apply aiA
  all_goals try exact clz
  refine qu (T:=fun k:Nat=>ze 54 [(0,zS l),(3,.int .i64 i),(4,.int .i64 k)]) (H:=fun _=>h) (inv:=fun k=>k≤u.rds.length∧ ∀j,j<k→guR u j=false) (m:=fun k=>u.rds.length-k) 0 ⟨nzl _,fun j hj=>absurd hj (nnz j)⟩ (Wk.temps ?_) ?_
  ·(simp only[zS,go_sem,qg,qc,qa,qf];try (repeat' first|(with_reducible apply aiA)|(apply qh;omega)|(apply qe;rfl)|exact qi))
  rintro k ⟨u1,u2⟩ K2 hK2
  by_cases hk:k<u.rds.length
  ·have t1:((k:Int)<u.rds.length)=True:=eqt om;have hkit:guR u k=true→R=true:=fun hc=>hit (by rw[hB,qR];exact⟨k,hk,hc⟩)
   have u3:=fun hc=>kq (p:=guR u) u2 hc
   have hG:guR u k=(decide (8<(u.rds.getD k default).src.length)||gwB (u.rds.getD k default).words 8):=rfl;have c1:=fun h=>gwP (u.rds.getD k default).words 8 h (hwd k)
   obtain⟨r,hr⟩: ∃r,r=u.rds.getD k default:=⟨_,rfl⟩
   have er:=hr.symm;simp only[er]at hG c1;unfold strs at c1;have z8:((8:Nat):Int)=8:=rfl;simp only[z8]at c1
   by_cases g2:8<r.src.length
   ·have t2:((8:Int)<r.src.length)=True:=eqt om;rw[hkit (by rw[hG,dqt g2];rfl)];simp (disch:=omega) only[zS,unC,jV,rdC,qI,t1,eu,er,k1,t2,go_sem]
    repeat' first
     |(refine qj ( .bool false) ?_;simp (disch:=omega) only[go_sem])
     |(apply qd;exact rvk;simp only[go_sem];exact qi)
     |with_reducible apply aiA
    all_goals try exact clz
   have t2:((8:Int)<r.src.length)=False:=eqf om;rw[dqf g2,Bool.false_or]at hG;cases g3:gwB r.words 8 with
   |true=>
    rw[g3]at hG c1;rw[hkit hG];simp (disch:=omega) only[zS,unC,jV,rdC,qI,t1,eu,er,strs,k1,t2,go_sem]
    repeat' first
     |(refine cG (fun e=>c1 _) flk ?_;simp (disch:=omega) only[go_sem])
     |(apply qd;exact rvk;simp only[go_sem];exact qi)
     |with_reducible apply aiA
    all_goals try exact clz
   |false=>
    rw[g3]at hG c1;simp (disch:=omega) only[zS,unC,jV,rdC,qI,t1,eu,er,strs,k1,t2,go_sem]
    repeat' first
     |(refine cG (fun e=>c1 _) flk ?_;simp (disch:=omega) only[go_sem])
     |with_reducible apply aiA
    all_goals try exact clz
    refine hK2 _ _ (k+1) ⟨hk,u3 hG⟩ om (Wk.temps ?_)
    (simp only[zS,go_sem,qg,qc,qa,qf];try (repeat' first|(with_reducible apply aiA)|(apply qh;omega)|(apply qe;rfl)|exact qi))
  ·have t1:((k:Int)<u.rds.length)=False:=eqf om;have hz:guB u=false:=by rw[hB,qt];exact fun j hj=>u2 j om
   simp (disch:=omega) only[zS,unC,jV,k1,t1,eu,go_sem]
   repeat' first
    |with_reducible apply aiA
   all_goals try exact clz
   refine hK _ _ (i+1) ⟨hi,i3 hz⟩ om (Wk.temps ?_)
   (simp only[zS,go_sem,qg,qc,qa,qf];try (repeat' first|(with_reducible apply aiA)|(apply qh;omega)|(apply qe;rfl)|exact qi))
 have k1:((i:Int)<l.length)=False:=eqf om;rw[qt.2 (fun j hj=>i2 j om),Bool.false_or]at hR;have e1:decide ((12:Int)<l.length)=decide (12<l.length):=decide_eq_decide.2 om;rw[hR,←e1];simp (disch:=omega) only[zS,k1,go_sem]
 repeat' first
  |(apply qd;exact rvk;simp only[go_sem];exact qi)
end RC
end
section
open Go Go.Proofs AF
def qmg:List Nat:= []
def qEi:C:=
 ((C.ops [ON 2 (.nilo 0 1 9) []]).seq ((C.ops [ON 3 (.nilo 1 1 9) []]).seq (((C.ops [MV 6 0,O1 7 .len 6,MC 8 (i6 0)]).seq (C.block 0 ((C.ops [BI 9 .lss 8 7]).seq ((C.cond (.t 9)
 C.skip (C.exit 0)).seq ((C.block 1 ((C.ops [O2 10 (.idxA 7) 6 8,O1 11 (.load (some 7)) 10,⟨some 5,none,.alloc 2 36 [.str [],i6 0,i6 0,i6 0,.bool false,.bool false,.str
 []],[]⟩,ST 7 5 11]).seq (C.ops [MV 12 3,O1 13 (.fldA 0) 5,LD 14 13,⟨some 15,none,.bslc 3 1 1 9 [.str []] [(0,1)],[.t 14]⟩,O2 16 (.app 4 1 9 16) 12 15,MV 3 16]))).seq
 (C.ops [BC 17 .add 8 (i6 1),MV 8 17])))).loop)).seq ((C.ops [MV 18 3,MV 2 18]).seq
 C.ret))))
theorem qCW:qM Tryz.prog 37 19 5 [RV.tmp 2] qEi:=fi Tryz.f37 [2,3,5,15,16] qmg []
def qBZ:C:=
 ((C.ops [O1 2 (.box 0 26) 0,MC 4 (i6 0)]).seq (((C.ops [O1 5 (.load (some 4)) 2,O1 6 (.call 67 true) 5,BC 7 .neq 6 (i6 0)]).seq (C.cond (.t 7) ((C.ops [MC 4 (i6 1)]).seq C.ret)
 C.skip)).seq (((C.ops [O1 8 (.load (some 4)) 2,MV 9 1,O2 10 (.call 69 true) 8 9,BC 11 .neq 10 (i6 0)]).seq (C.cond (.t 11) ((C.ops [MC 4 (i6 20)]).seq C.ret) C.skip)).seq
 ((C.ops [MC 4 (i6 0)]).seq
 C.ret))))
theorem qus:qM Tryz.prog 74 12 1 [RV.tmp 4] qBZ:=fi Tryz.f74 [2] qmg []
end
section
open Go Go.Proofs AF HY LN
namespace RC
def qtR(L:List (List Str)):AV:= .sl L.length fun i=> [strs (L.getD i [])]
def qtl(L:List Bool):AV:= .sl L.length fun i=> [.bool (L.getD i false)]
theorem flag_clsV(L:List (List Str)):(qtR L).flag=true:=rfl
theorem strip_clsV(L:List (List Str)):(qtR L).strip=qtR L:=rfl
theorem flag_bolV(L:List Bool):(qtl L).flag=true:=rfl
theorem strip_bolV(L:List Bool):(qtl L).strip=qtl L:=rfl
section
variable {fz : Nat → Bool} {h : List AObj} {n : Nat}
theorem rei_clsV(L:List (List Str)):rei fz h (n+1) (qtR L)=qtR L:=rfl
theorem rei_bolV(L:List Bool):rei fz h (n+1) (qtl L)=qtl L:=rfl
theorem frz_clsV(L:List (List Str)):frz fz h (n+1) (qtR L)=qtR L:=rfl
theorem frz_bolV(L:List Bool):frz fz h (n+1) (qtl L)=qtl L:=rfl
end
attribute [go_sem] flag_clsV strip_clsV flag_bolV strip_bolV rei_clsV rei_bolV frz_clsV frz_bolV
theorem jF{α:Type}{d:α}(L:List α)(P:α→Prop)(hd:P d)(h: ∀i,i<L.length→P (L.getD i d)): ∀i,P (L.getD i d):=by
 intro i
 by_cases hi:i<L.length
 ·exact h i hi
 ·rw[gdqA,List.getElem?_eq_none om];exact hd
theorem qsC{x:Co}(h:qux x=false):qdE x∧x.col.length≤24∧x.sig.length≤36:=by
 unfold qux at h;rw[Bool.or_eq_false_iff,Bool.or_eq_false_iff,Bool.or_eq_false_iff,Bool.or_eq_false_iff,qt,decide_eq_false_iff_not,decide_eq_false_iff_not]at h;obtain⟨h1,h2,h3,h4,h5⟩:=h;unfold gtB at h2;rw[Bool.or_eq_false_iff,qt,Bool.or_eq_false_iff,Bool.or_eq_false_iff,decide_eq_false_iff_not,decide_eq_false_iff_not]at h2;obtain⟨t1,t2,t3,t4⟩:=h2;unfold gnB at h5;rw[Bool.or_eq_false_iff,qt,decide_eq_false_iff_not]at h5;obtain⟨n1,n2⟩:=h5;have hrow: ∀i,i<x.tok.length→(x.tok.getD i []).length≤6∧ ∀j,j<(x.tok.getD i []).length→qcg ((x.tok.getD i []).getD j default)=false:=fun i hi=>by
  have:=t1 i hi
  unfold qdu at this;rw[Bool.or_eq_false_iff,Bool.or_eq_false_iff,decide_eq_false_iff_not,qt]at this;exact⟨om,this.2.2⟩
 have hd0:qsa (default:Tk):=⟨by decide,by decide,by decide,by decide⟩
 refine⟨⟨om,om,?_,om,?_,?_,om,?_⟩,om,om⟩
 ·exact jF x.sig (fun s=>s.length≤1000000000) (by decide) fun i hi=>by
   have:=of_decide_eq_false (n1 i hi)
   omega
 ·exact jF x.tok (fun s=>s.length≤1000000000) (by decide) fun i hi=>by have:=(hrow i hi).1;omega
 ·exact jF x.tok (fun s=> ∀j,qsa (s.getD j default)) (fun j=>by simpa using hd0) fun i hi=>jF _ qsa hd0 fun j hj=>by
   have:=(hrow i hi).2 j hj
   unfold qcg at this;simp only[Bool.or_eq_false_iff,decide_eq_false_iff_not]at this;exact⟨om,om,om,om⟩
 ·exact jF x.col (fun s=>s.length≤1000000000) (by decide) fun i hi=>by
   have:=of_decide_eq_false (h1 i hi)
   omega
theorem qsD{l:List Un}(h:quy l=false):qik l∧l.length≤12:=by
 unfold quy at h;rw[Bool.or_eq_false_iff,qt,decide_eq_false_iff_not]at h;obtain⟨h1,h2⟩:=h;have hu: ∀i,i<l.length→(l.getD i default).rds.length≤6∧ ∀j,j<(l.getD i default).rds.length→((l.getD i default).rds.getD j default).src.length≤8∧((l.getD i default).rds.getD j default).words.length≤8:=fun i hi=>by
  have:=h1 i hi
  unfold guB at this;rw[Bool.or_eq_false_iff,decide_eq_false_iff_not,qt]at this;refine⟨om,fun j hj=> ?_⟩;have h3:=this.2 j hj;unfold guR at h3;rw[Bool.or_eq_false_iff,decide_eq_false_iff_not]at h3
  have:=(qAb h3.2).1
  exact⟨om,om⟩
 refine⟨⟨om,?_,?_,?_⟩,om⟩
 ·exact jF l (fun u=>u.rds.length≤1000000000) (by decide) fun i hi=>by have:=(hu i hi).1;omega
 ·exact jF l (fun u=> ∀j,(u.rds.getD j default).src.length≤1000000000) (fun j=>by simp[show (default:Un).rds= []from rfl,show (default:Rd).src= []from rfl]) fun i hi=>jF _ (fun r:Rd=>r.src.length≤1000000000) (by decide) fun j hj=>by have:=(hu i hi).2 j hj;omega
 ·exact jF l (fun u=> ∀j,(u.rds.getD j default).words.length≤1000000000) (fun j=>by simp[show (default:Un).rds= []from rfl,show (default:Rd).words= []from rfl]) fun i hi=>jF _ (fun r:Rd=>r.words.length≤1000000000) (by decide) fun j hj=>by have:=(hu i hi).2 j hj;omega
end RC
end
section
namespace AF
open Go
theorem Wk.moveCell{t:List AV}{h:List AObj}{i j a w v:Nat}{ty ty':TypeId}{ds cs:List AV}{sz off len:Nat}
  (hi:qr i h=some (.mem w ty' ds)) (ha:ds[a]? =some (.osl j v sz off len)) (hj:qr j h=some (.mem v ty cs)) (hne:i≠j):
  Wk t h t (qn i (qn j h (.emp (v+1))) (.mem w ty' (ds.set a (.osl h.length 1 sz off len)))++ [.mem 1 ty cs]):=by
 intro N W σ A H;obtain⟨p1,p2⟩:=H.hr.pushN 1;have hjl:=zG hj;have hil:=zG hi;have hj':qr j (h++ [.emp 0])=some (.mem v ty cs):=by rw[zz hjl];exact hj
 have hg:qr h.length (h++ [AObj.emp 0])=some (.emp 0):=by unfold qr;rw[List.getElem?_append_right (nlr _),Nat.sub_self];rfl
 have hk':qJ (h++ [.emp 0]) h.length=true:=by unfold qJ;rw[hg]
 obtain⟨σ2,q1,q2,q3⟩:=HR.move (h:=h++ [.emp 0]) p1 hj' hk' om;have e0:qn h.length (qn j (h++ [.emp 0]) (.emp (v+1))) (.mem (qo (qr h.length (h++ [.emp 0]))+1) ty cs)=qn j h (.emp (v+1))++ [.mem 1 ty cs]:=by
  rw[hg];unfold qn;rw[List.set_append_left _ _ hjl,List.set_append_right _ _ (by rw[List.length_set];exact nlr _),List.length_set,Nat.sub_self];rfl
 rw[e0]at q1;rw[hg]at q3;have ee:=p2.trans q2;have hiq:qr i (qn j h (.emp (v+1))++ [.mem 1 ty cs])=some (.mem w ty' ds):=by
  rw[zz (by rw[qL];exact hil),qS (by exact hne)];exact hi
 obtain⟨o,b,arr,o1,o2,o3,o4,o5,o6,o7,o8,o9⟩:=jz q1 (qP hiq);obtain⟨o',b',arr',r1,r2,r3,r4,r5,r6,r7,r8,r9⟩:=jz H.hr (qP hi);obtain⟨o2',s1,s2,s3⟩:=ee.obj i o' r1;rw[o1]at s1;cases s1;have eo:o=o':=s3 (o2.trans r2.symm);subst eo;rw[o4]at r4;cases r4;have earr:arr=arr':=by
  obtain⟨T,fz,_,x1⟩:=o5;obtain⟨T',fz',_,x2⟩:=r5;rw[x1]at x2;cases x2;rfl
 subst earr;have q:=q1.recell (cs':=ds.set a (.osl h.length 1 sz off len)) hiq o1 o4 o5 o6 (by simpa using o7) (fun n x hn hx=>o8 n x (by simpa using hn) hx) (fun n d x hd hx=>by
  rw[List.getElem?_set]at hd;split at hd
  ·rename_i e;subst e;split at hd
   ·cases hd;exact q3 sz off len x ((r9 a _ x ha hx).ext p2)
   ·cases hd
  ·exact o9 n d x hd hx)
 have e1:qn i (qn j h (.emp (v+1))++ [.mem 1 ty cs]) (.mem w ty' (ds.set a (.osl h.length 1 sz off len)))=qn i (qn j h (.emp (v+1))) (.mem w ty' (ds.set a (.osl h.length 1 sz off len)))++ [.mem 1 ty cs]:=by
  unfold qn;rw[List.set_append_left _ _ (by rw[List.length_set];exact hil)]
 rw[e1]at q;exact⟨σ2,⟨q,H.sz,fun n d x hd hx=>(H.tm n d x hd hx).ext ee,qbp ee H.df⟩,ee⟩
end AF
end
section
open Go Go.Proofs AF HY LN
namespace RC
def qaL(base:Nat)(L:List Rd):List AV:=(List.range L.length).flatMap fun j=> [strs (L.getD j default).words,.osl (base+j) (L.getD j default).src.length 1 0 (L.getD j default).src.length]
def qhN(L:List Rd):List AObj:=L.map fun r=> .mem r.src.length 3 (qU r.src)
theorem qrc(L:List Rd):(qhN L).length=L.length:=by simp[qhN]
theorem qnp{L:List Rd}{j:Nat}(hj:j<L.length):(qhN L)[j]? =some (.mem (L.getD j default).src.length 3 (qU (L.getD j default).src)):=by
 unfold qhN;rw[List.getElem?_map,zL hj,gdqA,zL hj];rfl
theorem qrb(L M:List Rd):qhN (L++M)=qhN L++qhN M:=by simp[qhN]
theorem qrd{L:List Rd}{j:Nat}(r:Rd):(qhN L).set j (.mem r.src.length 3 (qU r.src))=qhN (L.set j r):=by
 unfold qhN;rw[List.map_set]
theorem qdU{α:Type}(f g:Nat→List α): ∀n,(∀i,i<n→f i=g i)→(List.range n).flatMap f=(List.range n).flatMap g:=fun n h=>by
 rw[List.flatMap_def,List.flatMap_def];congr 1;exact List.map_congr_left fun i hi=>h i (List.mem_range.1 hi)
theorem qno(base:Nat)(L:List Rd)(r:Rd):qaL base (L++ [r])=qaL base L++ [strs r.words,.osl (base+L.length) r.src.length 1 0 r.src.length]:=by
 unfold qaL;rw[lap,List.length_singleton,List.range_succ,List.flatMap_append];congr 1
 ·refine qdU _ _ _ fun i hi=> ?_
  rw[gdqA,List.getElem?_append_left hi,←gdqA]
 ·simp
theorem qcT(base:Nat)(L:List Rd):(qaL base L).length=2*L.length:=by
 unfold qaL;generalize L.length=n;generalize hf:(fun j=> [strs (L.getD j default).words,AV.osl (base+j) (L.getD j default).src.length 1 0 (L.getD j default).src.length])=f;have h2: ∀j,(f j).length=2:=fun j=>by rw[←hf];rfl
 induction n with
 |zero=>rfl
 |succ n ih=>rw[List.range_succ,List.flatMap_append,lap,ih];simp[h2];omega
theorem qdV(base:Nat)(L:List Rd){k:Nat}(hk:k<L.length): ∃A B,A.length=2*k∧qaL base L=A++ [strs (L.getD k default).words,.osl (base+k) (L.getD k default).src.length 1 0 (L.getD k default).src.length]++B∧
  ∀s,qaL base (L.set k ⟨(L.getD k default).words,s⟩)=A++ [strs (L.getD k default).words,.osl (base+k) s.length 1 0 s.length]++B:=by
 have e:List.range L.length=List.range k++k::(List.range (L.length-(k+1))).map (fun i=>k+1+i):=by
  conv=>lhs;rw[show L.length=k+1+(L.length-(k+1)) by omega,List.range_add,List.range_succ,List.append_assoc]
  rfl
 refine⟨(List.range k).flatMap fun j=> [strs (L.getD j default).words,.osl (base+j) (L.getD j default).src.length 1 0 (L.getD j default).src.length],((List.range (L.length-(k+1))).map (fun i=>k+1+i)).flatMap fun j=> [strs (L.getD j default).words,.osl (base+j) (L.getD j default).src.length 1 0 (L.getD j default).src.length],?_,?_,fun s=> ?_⟩
 ·have h2: ∀(f:Nat→List AV),(∀j,(f j).length=2)→ ∀n,((List.range n).flatMap f).length=2*n:=fun f hf n=>by
   induction n with
   |zero=>rfl
   |succ n ih=>rw[List.range_succ,List.flatMap_append,lap,ih];simp[hf];omega
  exact h2 _ (fun _=>rfl) _
 ·unfold qaL;rw[e,List.flatMap_append,List.flatMap_cons,List.append_assoc]
 ·unfold qaL;rw[List.length_set,e,List.flatMap_append,List.flatMap_cons,List.append_assoc];have g: ∀j,(L.set k ⟨(L.getD k default).words,s⟩).getD j default=if j=k then ⟨(L.getD k default).words,s⟩ else L.getD j default:=fun j=>kC hk
  congr 1
  ·refine qdU _ _ _ fun i hi=> ?_
   rw[g,ine om]
  ·rw[g,ipo rfl];show _::_::_=_::_::_;congr 2;rw[List.flatMap_def,List.flatMap_def,List.map_map,List.map_map];refine congrArg List.flatten (List.map_congr_left fun i _=> ?_);simp only[Function.comp];rw[g,ine om]
theorem qra{base:Nat}{L:List Rd}{i:Nat}(hi:i<L.length):((qaL base L).drop (i*2)).take 2= [strs (L.getD i default).words,.osl (base+i) (L.getD i default).src.length 1 0 (L.getD i default).src.length]:=by
 obtain⟨A,B,h1,h2,_⟩:=qdV base L hi;rw[h2,show i*2=A.length by omega,List.append_assoc,List.drop_append,Nat.sub_self];simp
theorem qqx{L:List Int}{n:Nat}{g:AV→AV}(hg: ∀x,g (.int .i64 x)= .int .i64 x)(hn:n=L.length):ILe (qhW (some (.mem n 3 (qU L))) n 1 0 n g) (qI L):=by
 subst hn;rw[slOf_mem,ipo ⟨rfl,by rw[jZ];omega⟩];refine ILe.sl_eq fun i hi=> ?_
 simp only[Nat.zero_add,Nat.mul_one];have e:((qU L).drop i).take 1= [.int .i64 (L.getD i 0)]:=by
  rw[List.drop_eq_getElem_cons (by rw[jZ];exact hi),List.take_succ_cons,List.take_zero];have h:=qmo (C:=L) hi;rw[zL (by rw[jZ];exact hi)]at h;rw[Option.some.inj h]
 rw[e,List.map_cons,List.map_nil,hg]
theorem qnq{base v:Nat}{L:List Rd}{n:Nat}{fz:Nat→Bool}{H:List AObj}{d:Nat}(hn:n=L.length)(hf: ∀j,j<L.length→fz (base+j)=true)(hj: ∀j,j<L.length→qr (base+j) H=some (.mem (L.getD j default).src.length 3 (qU (L.getD j default).src))):
  VLe (qhW (some (zk v 87 (qaL base L))) v 2 0 n (rei fz H (d+2))) (jV L):=by
 subst hn
 by_cases h0:L= []
 ·subst h0;show VLe (qhW (some (.emp v)) v 2 0 0 _) _;rw[slOf_emp,ipo rfl];exact zf
 ·have e0:zk v 87 (qaL base L)= .mem v 87 (qaL base L):=qas (fun e=>h0 (by
   have:=qcT base L
   rw[e]at this
   exact List.eq_nil_of_length_eq_zero (by simp at this;omega)))
  rw[e0,slOf_mem,ipo ⟨rfl,by rw[qcT];omega⟩];refine VLe.sl (fun i hi=> ?_);simp only[Nat.zero_add];rw[qra hi];refine⟨ILe.refl _,?_,trivial⟩;show ILe (rei fz H (d+1+1) (.osl (base+i) _ 1 0 _)) _;rw[rei_osl,ipo (hf i hi),hj i hi];exact qqx (fun _=>rfl) rfl
theorem qtY{A B:List AV}{a b c:AV}{n:Nat}(hn:n=A.length+1):List.take n (A++ [a,b]++B)++ [c]++List.drop (n+1) (A++ [a,b]++B)=A++ [a,c]++B:=by
 have e1:A++ [a,b]++B=(A++ [a])++(b::B):=by simp
 have e2:A++ [a,b]++B=(A++ [a]++ [b])++B:=by simp
 have h1:List.take n (A++ [a,b]++B)=A++ [a]:=by rw[e1];exact List.take_left' (by rw[lap,List.length_singleton,hn])
 have h2:List.drop (n+1) (A++ [a,b]++B)=B:=by rw[e2];exact List.drop_left' (by rw[lap,lap,List.length_singleton,List.length_singleton,hn])
 rw[h1,h2];simp
theorem qj6{hi:Int}: ∀ {S:List Int} {lo:Int},S.Pairwise (· < ·)→(∀x∈S,lo≤x∧x<hi)→S.length≤(hi-lo).toNat:=by
 intro S
 induction S with
 |nil=>intro lo _ _;exact nzl _
 |cons a S ih=>
  intro lo h1 h2;obtain⟨p1,p2⟩:=List.pairwise_cons.1 h1;have ha:=h2 a List.mem_cons_self
  have:=ih (lo:=a+1) p2 fun x hx=>⟨by have:=p1 x hx;omega,(h2 x (List.mem_cons_of_mem _ hx)).2⟩
  rw[lco];omega
theorem qDk{h M:List AObj}{a0 a1 a2 a3 a4 a5 a6 a7 a8:AObj}:(h++a0::a1::a2::a3::a4::a5::a6::a7::a8::M).length=h.length+9+M.length:=by
 simp only[lap,lco];omega
theorem qfv{h M:List AObj}{a0 a1 a2 a3 a4 a5 a6 a7 a8:AObj}{j:Nat}:qr (h.length+9+j) (h++a0::a1::a2::a3::a4::a5::a6::a7::a8::M)=M[j]? :=by
 unfold qr;rw[List.getElem?_append_right om,show h.length+9+j-h.length=j+9 by omega];rfl
theorem qAY{h M:List AObj}{a0 a1 a2 a3 a4 a5 a6 a7 a8 o:AObj}{j:Nat}:qn (h.length+9+j) (h++a0::a1::a2::a3::a4::a5::a6::a7::a8::M) o=h++a0::a1::a2::a3::a4::a5::a6::a7::a8::M.set j o:=by
 unfold qn;rw[List.set_append_right _ _ om,show h.length+9+j-h.length=j+9 by omega];rfl
theorem qEF(x:Co)(f t:Nat)(h:List AObj)(ho:CoOk x)(ht:t≤x.col.length)(hn:x.col.length≤1000000000):ACalls Tryz.prog 89 [.agg (coC x),.int .i64 (f:Int),.int .i64 (t:Int)] h (jV (qe5 x f t)) h:=by
 have zl: ∀g,valL g .len [strs x.sig]= .int .i64 x.sig.length:=fun _=>rfl
 have zo: ∀g,okL g .len [strs x.sig]=True:=fun _=>eqt trivial
 refine acO qC6 ?_;simp (disch:=omega) only[qEr,coC,zl,zo,go_sem];refine qu (T:=fun i:Nat×Nat×AObj×AObj×AObj×AObj=>ze 48 [(1,.int .i64 (f:Int)),(2,.int .i64 (t:Int)),(3,.op h.length 1 0),(7,.osl (h.length+2) i.2.1 2 0 (qcs x f (t-f) i.1).length),(13,.int .i64 x.sig.length),(14,.int .i64 i.1)])
  (H:=fun i=>h++ .mem 1 26 (coC x):: .emp 1::zk i.2.1 87 (qaL (h.length+9) (qcs x f (t-f) i.1))::i.2.2.1::i.2.2.2.1::i.2.2.2.2.1:: .emp 0::i.2.2.2.2.2:: .emp 0::qhN (qcs x f (t-f) i.1))
  (inv:=fun i=>i.1≤x.sig.length∧qJ [i.2.2.1] 0=true∧qJ [i.2.2.2.1] 0=true∧qJ [i.2.2.2.2.1] 0=true∧qJ [i.2.2.2.2.2] 0=true) (m:=fun i=>x.sig.length-i.1) (0,1,.emp 0,.emp 0,.emp 0,.emp 0) ⟨nzl _,rfl,rfl,rfl,rfl⟩ (Wk.temps ?_) ?_
 ·(simp only[qcs,lnl,go_sem,qg,qc,qa,qf];try (repeat' first|(with_reducible apply aiA)|(apply qh;omega)|(apply qe;rfl)|exact qi))
 rintro⟨s,v,O3,O4,O5,O7⟩ ⟨i1,j3,j4,j5,j7⟩ K hK;simp only at i1 j3 j4 j5 j7 hK;have j3': ∀m,qJ (O3::m) 0=true:=fun _=>j3
 have j4': ∀m,qJ (O4::m) 0=true:=fun _=>j4
 have j5': ∀m,qJ (O5::m) 0=true:=fun _=>j5
 have j7': ∀m,qJ (O7::m) 0=true:=fun _=>j7
 have hst:qcs x f (t-f) (s+1)=qga (qcs x f (t-f) s) (rdG x s f (t-f)) s:=rfl;have hln:=qhQ x f (t-f) s;have hsg:=ho.sg;obtain⟨L,hL⟩: ∃L,L=qcs x f (t-f) s:=⟨_,rfl⟩
 rw[←hL]at hst hln;have eL:=hL.symm
 by_cases hs:s<x.sig.length
 ·have k1:((s:Int)<x.sig.length)=True:=eqt om;have c21:=fun h=>rdP x f t s h ho ht hs hn
  obtain⟨w,hw⟩: ∃w,w=rdG x s f (t-f):=⟨_,rfl⟩
  rw[←hw]at hst;simp only[←hw]at c21;unfold coC at c21;simp (disch:=omega) only[coC,k1,eL,go_sem]
  repeat' first
   |(refine cA (c21 _) flk ?_;simp (disch:=omega) only[j3',j4',go_sem])
  have hwl:w.length≤1000000000:=by have:=qeD x s f (t-f);rw[←hw]at this;omega
  have hRd:=qhO x f (t-f) s;rw[eL]at hRd;have hwL: ∀j,(L.getD j default).words.length≤1000000000:=jF L (fun r=>r.words.length≤1000000000) (by decide) fun j hj=>by
   have h1:=hRd.nn j hj;obtain⟨y,ys,e⟩:=List.exists_cons_of_ne_nil h1;have h2:=hRd.wd j hj y (by rw[e];exact List.mem_cons_self);rw[h2]
   have:=qeD x y.toNat f (t-f)
   omega
  have hob:= @qnp L;refine cA (r:= .int .i64 (qjW L w)) ?c (by exact flk) ?_
  case c=>
   refine ACalls.borrow ((fdP L ⟨w,[(s:Int)]⟩ [] om hwl hwL).le ?v (qi)) rfl;simp only[List.map_cons,List.map_nil,go_sem];refine⟨qnq rfl (fun _ _=>rfl) (fun j hj=>by rw[qfv];exact hob hj),VLe.agg ⟨qi,VLe.sl_eq rfl (fun i hi=> ?_),trivial⟩,qi,trivial⟩;obtain rfl:i=0:=by simpa using hi
   rfl
  have eKl:=qcT (h.length+9) L;rcases qb6 L w with⟨k,b1,b2,b3⟩|⟨b1,b2⟩
  ·have q1:(qjW L w<0)=False:=eqf om;have hst2:qcs x f (t-f) (s+1)=L.set k ⟨w,(L.getD k default).src++ [(s:Int)]⟩:=by
    rw[hst];unfold qga;rw[b3,ine om,itn]
   obtain⟨A,B,a1,a2,a3⟩:=qdV (h.length+9) L b1;have a3:=a3 ((L.getD k default).src++ [(s:Int)]);have hne:(qaL (h.length+9) L≠ [])=True:=eqt fun e=>by rw[e]at eKl;simp at eKl;omega
   have hob:=hob b1;rw[b2]at a2 a3;have hos:= @qrd L k ⟨w,(L.getD k default).src++ [(s:Int)]⟩;rw[←hst2]at hos a3;dsimp only at hos;obtain⟨S,hS⟩: ∃S,S=(L.getD k default).src:=⟨_,rfl⟩
   rw[←hS]at a2 a3 hob hos;rw[lap,List.length_singleton]at a3 hos;rw[qmn,show qU [(s:Int)]= [AV.int .i64 (s:Int)]from rfl]at hos;have gg:(qaL (h.length+9) L)[k*2+1]? =some (.osl (h.length+9+k) S.length 1 0 S.length):=by
    rw[a2,List.append_assoc,List.getElem?_append_right om,show k*2+1-A.length=1 by omega];rfl
   have gs:List.take (k*2+1) (qaL (h.length+9) L)++ [.osl (h.length+9+k) (S.length+1) 1 0 (S.length+1)]++List.drop (k*2+1+1) (qaL (h.length+9) L)=qaL (h.length+9) (qcs x f (t-f) (s+1)):=by
    rw[a2,a3];exact qtY om
   have eI:=jZ S;have hSl:S.length≤1000:=by
    have:=(qhP x f (t-f) s).src (L.getD k default) (by rw[eL,gdqA,zL b1];exact List.getElem_mem b1)
    have:=qj6 (hi:=(s:Int)) (lo:=0) this.1 this.2
    rw[←hS]at this;omega
   have eown:zk v 87 (qaL (h.length+9) L)= .mem v 87 (qaL (h.length+9) L):=qas (of_eq_true hne);have el2:(qcs x f (t-f) (s+1)).length=L.length:=by rw[hst2,List.length_set]
   have eown2:zk v 87 (qaL (h.length+9) (qcs x f (t-f) (s+1)))= .mem v 87 (qaL (h.length+9) (qcs x f (t-f) (s+1))):=qas fun e=>by
    have:=qcT (h.length+9) (qcs x f (t-f) (s+1))
    rw[e,el2]at this;simp at this;omega
   have eTi:List.take S.length (qU S)=qU S:=ltl om;have kL:((k:Int)<L.length)=True:=eqt om;have k0:(0≤(k:Int))=True:=eqt om;rw[eown];simp (disch:=omega) only[b3,j7',gg,eKl,kL,k0,Option.getD_some,Option.isSome_some,qfv,qAY,hob,eTi,Nat.mul_one,itn,go_sem]
   repeat' first
    |with_reducible first|intro _|apply aiA
   all_goals try exact clz
   all_goals try (simp only[jq,zR,qfv,hob,qaW,ql,if_true,Option.getD_some,eI,beq_self_eq_true];done)
   all_goals try (simp only[bne_iff_ne];omega)
   all_goals try (simp only[zR,qfv,hob,ql,if_true,Option.getD_some,eI];exact nlr _)
   rw[gs];have eD:(AV.int .i64 (s:Int)::List.drop 1 (qY [i6 0] 1))= [AV.int .i64 (s:Int)]:=rfl;simp only[eD];rw[hos];refine hK _ _ (s+1,v,.mem (qo (some O3)+1) 3 [.int .i64 (s:Int)],.mem (qo (some O4)+1) 87 [strs w,.osl (h.length+3) (qo (some O3)+1) 1 0 1],O5,.mem (qo (some O7)+1) 3 [.int .i64 (s:Int)]) ⟨hs,rfl,rfl,j5,rfl⟩ (by simp only;omega) ?_;simp only[eown2,el2,coC];refine Wk.temps ?_
   (simp only[go_sem,qg,qc,qa,qf];try (repeat' first|(with_reducible apply aiA)|(apply qh;omega)|(apply qe;rfl)|exact qi))
  ·have q1:(qjW L w<0)=True:=eqt b2;have hst2:qcs x f (t-f) (s+1)=L++ [⟨w,[(s:Int)]⟩]:=by
    rw[hst];unfold qga;rw[ipo b2]
   have eTk:List.take (L.length*2) (qaL (h.length+9) L)=qaL (h.length+9) L:=ltl om;simp (disch:=omega) only[q1,j5',eTk,eKl,Nat.mul_one,go_sem]
   repeat' first
    |with_reducible apply aiA
   all_goals try exact clz
   have el2:(qcs x f (t-f) (s+1)).length=L.length+1:=by rw[hst2,lap];rfl
   have eo:qhN (qcs x f (t-f) (s+1))=qhN L++ [.mem 1 3 [.int .i64 (s:Int)]]:=by rw[hst2,qrb];rfl
   have ek:qaL (h.length+9) (qcs x f (t-f) (s+1))=qaL (h.length+9) L++ [strs w,.osl (h.length+9+L.length) 1 1 0 1]:=by rw[hst2,qno];rfl
   have eown:zk (v+1) 87 (qaL (h.length+9) L++ [strs w,.osl (h.length+3) (qo (some O3)+1) 1 0 1])= .mem (v+1) 87 (qaL (h.length+9) L++ [strs w,.osl (h.length+3) (qo (some O3)+1) 1 0 1]):=qas (by simp);have eown2:zk (v+1) 87 (qaL (h.length+9) L++ [strs w,.osl (h.length+9+L.length) 1 1 0 1])= .mem (v+1) 87 (qaL (h.length+9) L++ [strs w,.osl (h.length+9+L.length) 1 1 0 1]):=qas (by simp);have eset:(qaL (h.length+9) L++ [strs w,AV.osl (h.length+3) (qo (some O3)+1) 1 0 1]).set (L.length*2+1) (.osl (h.length+9+L.length) 1 1 0 1)=qaL (h.length+9) L++ [strs w,.osl (h.length+9+L.length) 1 1 0 1]:=by
    rw[List.set_append_right _ _ om,eKl,show L.length*2+1-2*L.length=1 by omega];rfl
   rw[eown];refine hK _ _ (s+1,v+1,.emp (qo (some O3)+1+1),.mem (qo (some O4)+1) 87 [strs w,.osl (h.length+3) (qo (some O3)+1) 1 0 1],.mem (qo (some O5)+1) 87 [strs w,.osl (h.length+3) (qo (some O3)+1) 1 0 1],O7) ⟨hs,rfl,rfl,rfl,j7⟩ (by simp only;omega)
    (Wk.trans (Wk.moveCell (i:=h.length+2) (j:=h.length+3) (a:=L.length*2+1) (w:=v+1) (v:=qo (some O3)+1) (ty:=3) (ty':=87) (ds:=qaL (h.length+9) L++ [strs w,.osl (h.length+3) (qo (some O3)+1) 1 0 1]) (cs:= [.int .i64 (s:Int)]) (sz:=1) (off:=0) (len:=1) ?m1 ?m2 ?m3 om) ?m4)
   case m1=>simp only[go_sem]
   case m2=>
    rw[List.getElem?_append_right om,show L.length*2+1-(qaL (h.length+9) L).length=1 by omega];rfl
   case m3=>simp only[go_sem];rfl
   case m4=>
    have eD:(AV.int .i64 (s:Int)::List.drop 1 (qY [i6 0] 1))= [AV.int .i64 (s:Int)]:=rfl;have eD2: ∀c:AV,(strs w::c::List.drop 2 (qY [AV.nl,AV.nl] 1))= [strs w,c]:=fun _=>rfl
    simp only[eo,ek,eown2,el2,coC,eD,eD2,qDk,qrc,go_sem,eset,List.append_assoc,lca];refine Wk.temps ?_
    (simp only[go_sem,qg,qc,qa,qf];try (repeat' first|(with_reducible apply aiA)|(apply qh;omega)|(apply qe;rfl)|exact qi))
 ·have k1:((s:Int)<x.sig.length)=False:=eqf om;obtain rfl:s=x.sig.length:=by omega
  have hF:qe5 x f t=L:=by rw[hL];rfl
  rw[hF];simp (disch:=omega) only[k1,eL,go_sem]
  repeat' first
   |(apply qb;exact rvk;simp only[go_sem])
  exact qnq rfl (fun j _=>dqt om) (fun j hj=>by rw[qfv];exact qnp hj)
theorem qEY(l:List Un)(f t:Nat)(k v k2 v2:Nat)(h:List AObj)(hk:qr k h=some (.mem v 3 [.int .i64 (f:Int)]))(hk2:qr k2 h=some (.mem v2 3 [.int .i64 (t:Int)]))(hn:l.length≤1000000000):
  ACalls Tryz.prog 33 [zS l,.fn (.func 167) [] [.op k v 0,.op k2 v2 0]] h (.bool (rnB l (f,t))) h:=by
 have hc:=qP hk;have hc2:=qP hk2;unfold zS rnB;refine qyg qCV ⟨rfl,rfl⟩ ⟨rfl,rfl⟩ (qgv qzS l.length (fun j=>unC (l.getD j default)) (fun j=> .agg (unC (l.getD j default))) _ [] [.op k v 0,.op k2 v2 0] _ h (fun i _=>⟨rfl,by simp[kB,unC],rfl,rfl,rfl⟩) (fun i _=> ?_) om);refine ACalls.borrow ?_ rfl;have e:([AV.agg (unC (l.getD i default))]++ [AV.op k v 0,AV.op k2 v2 0]).map (rei (fun _=>true) h 8)= [.agg (unC (l.getD i default)),.ip [.int .i64 (f:Int)],.ip [.int .i64 (t:Int)]]:=by
  simp only[lca,lna,List.map_cons,List.map_nil,rei_op,if_true,hc,hc2,ipOf_some,List.drop_zero,rei_agg];rfl
 rw[lna,e];exact qFz _ _ _ _
theorem qpf(l:List Un)(i:Nat):beH l (i+1)=(l.getD i default).to:=by unfold beH;rw[ine om,Nat.add_sub_cancel]
theorem quU(u:Un)(n v:Nat)(ty:TypeId):lowO n (.mem v ty (unC u)):=by
 intro c hc;simp only[unC,List.mem_cons,List.not_mem_nil,or_false]at hc;rcases hc with rfl|rfl|rfl<;>rfl
theorem quT(x:Co)(n v:Nat)(ty:TypeId):lowO n (.mem v ty (coC x)):=by
 intro c hc;simp only[coC,List.mem_cons,List.not_mem_nil,or_false]at hc;rcases hc with rfl|rfl|rfl|rfl<;>rfl
theorem qnw(x:Co): ∀a∈rnX x,a.length=2:=by
 intro a ha;unfold rnX at ha;obtain⟨_,_,rfl⟩:=List.mem_map.1 ha;rfl
theorem qgG(x:Co):(rnX x).length=(qd3 (cmB x) x.col.length).length:=by simp[rnX]
theorem qnv{x:Co}{i:Nat}(hi:i<(rnX x).length):(rnX x)[i]= [.int .i64 (((qd3 (cmB x) x.col.length).getD i (0,0)).1:Int),.int .i64 (((qd3 (cmB x) x.col.length).getD i (0,0)).2:Int)]:=by
 have h2:i<(qd3 (cmB x) x.col.length).length:=by rw[←qgG];exact hi
 simp only[rnX,List.getElem_map];rw[gdqA,zL h2];rfl
theorem qvy(x:Co)(f d:Nat)(hd:d≤1000000000)(s:Nat)(hs:s≤1000000000):qs6 (qcs x f d s):=by
 have hI:=qhP x f d s;have hH:=qhO x f d s;have hl:=qhQ x f d s;refine⟨om,?_,?_⟩
 ·exact jF _ (fun r:Rd=>r.src.length≤1000000000) (by decide) fun j hj=>by
   have:=hI.src ((qcs x f d s).getD j default) (by rw[gdqA,zL hj];exact List.getElem_mem hj)
   have:=qj6 (hi:=(s:Int)) (lo:=0) this.1 this.2
   omega
 ·exact jF _ (fun r:Rd=>r.words.length≤1000000000) (by decide) fun j hj=>by
   have h1:=hH.nn j hj;obtain⟨y,ys,e⟩:=List.exists_cons_of_ne_nil h1;have h2:=hH.wd j hj y (by rw[e];exact List.mem_cons_self);rw[h2]
   have:=qeD x y.toNat f d
   omega
theorem qFA(x:Co)(l:List Un)(h:List AObj)(ho:CoOk x)(hn:x.col.length≤1000000000)(hu:qik l):ACalls Tryz.prog 122 [.agg (coC x),zS l] h (.bool (rgB x l)) h:=by
 have hsg:=ho.sg;have hl:=hu.n;obtain⟨R,hR⟩: ∃R,R=rgB x l:=⟨_,rfl⟩
 rw[←hR];unfold rgB at hR;refine acO qyB ?_;simp (disch:=omega) only[qw3,coC,zS,go_sem]
 repeat' first
  |with_reducible apply aiA
 all_goals try exact clz
 refine qu (T:=fun i:Nat×AObj=>ze 63 [(2,.op h.length 1 0),(3,.op (h.length+1) 1 0),(4,.op (h.length+2) 1 0),(5,.int .i64 (beH l i.1)),(10,zS l),(11,.int .i64 l.length),(12,.int .i64 i.1)])
  (H:=fun i=>h++ [.mem 1 26 (coC x),.mem 1 28 [zS l],.mem 1 4 [.bool false],i.2,.emp 0,.emp 0])
  (inv:=fun i=>i.1≤l.length∧qJ [i.2] 0=true∧(∀n,lowO n i.2)∧ ∀j,j<i.1→unB x (beH l j) (l.getD j default)=true) (m:=fun i=>l.length-i.1) (0,.emp 0) ⟨nzl _,rfl,fun _=>trivial,fun j hj=>absurd hj (nnz j)⟩ (Wk.temps ?_) ?_
 ·(simp only[zS,beH,go_sem,qg,qc,qa,qf];try (repeat' first|(with_reducible apply aiA)|(apply qh;omega)|(apply qe;rfl)|exact qi))
 rintro⟨i,O⟩ ⟨i1,i2,il,i3⟩ K hK;simp only at i1 i2 il i3 hK;have i2': ∀m,qJ (O::m) 0=true:=fun _=>i2
 by_cases hi:i<l.length
 ·have k1:((i:Int)<l.length)=True:=eqt om;have hno:unB x (beH l i) (l.getD i default)=false→R=false:=fun hx=>by
   rw[hR];unfold qd6;rw[qR.2 ⟨i,hi,by rw[hx];rfl⟩];rfl
  have hS:unB x (beH l i) (l.getD i default)=true→ ∀j,j<i+1→unB x (beH l j) (l.getD j default)=true:=fun hx j hj=>by
   by_cases e:j=i
   ·subst e;exact hx
   ·exact i3 j om
  have hbs:=qpf l i;have zrd:qs6 (l.getD i default).rds:=⟨hu.rd i,hu.sr i,hu.wd i⟩
  obtain⟨u,hux⟩: ∃u,u=l.getD i default:=⟨_,rfl⟩
  have eu:=hux.symm;rw[eu]at hno hS hbs zrd;obtain⟨b,hb⟩: ∃b,b=beH l i:=⟨_,rfl⟩
  have eb:=hb.symm;rw[eb]at hno hS;have hB:unB x b u= !(decide (u.frm≤b)||(decide (u.frm<0)||(decide (u.to≤u.frm)||(decide ((x.col.length:Int)<u.to)|| !decide (u.rds=qe5 x u.frm.toNat u.to.toNat))))):=rfl
  by_cases g1:u.frm≤b
  ·have q1:(u.frm≤b)=True:=eqt g1;rw[hno (by rw[hB,dqt g1];rfl)];simp (disch:=omega) only[zS,unC,coC,qw,jV,k1,eu,eb,i2',q1,go_sem]
   repeat' first
    |(refine qj ( jV []) ?_;simp (disch:=omega) only[jV,go_sem])
    |(apply qb;exact rvk;simp only[go_sem];exact qi)
    |with_reducible apply aiA
   all_goals try exact clz
  have q1:(u.frm≤b)=False:=eqf g1
  by_cases g2:u.frm<0
  ·have q2:(u.frm<0)=True:=eqt g2;rw[hno (by rw[hB,dqt g2];simp)];simp (disch:=omega) only[zS,unC,coC,qw,jV,k1,eu,eb,i2',q1,q2,go_sem]
   repeat' first
    |(refine qj ( jV []) ?_;simp (disch:=omega) only[jV,go_sem])
    |(apply qb;exact rvk;simp only[go_sem];exact qi)
    |with_reducible apply aiA
   all_goals try exact clz
  have q2:(u.frm<0)=False:=eqf g2
  by_cases g3:u.to≤u.frm
  ·have q3:(u.to≤u.frm)=True:=eqt g3;rw[hno (by rw[hB,dqt g3];simp)];simp (disch:=omega) only[zS,unC,coC,qw,jV,k1,eu,eb,i2',q1,q2,q3,go_sem]
   repeat' first
    |(refine qj ( jV []) ?_;simp (disch:=omega) only[jV,go_sem])
    |(apply qb;exact rvk;simp only[go_sem];exact qi)
    |with_reducible apply aiA
   all_goals try exact clz
  have q3:(u.to≤u.frm)=False:=eqf g3
  by_cases g4:(x.col.length:Int)<u.to
  ·have q4:((x.col.length:Int)<u.to)=True:=eqt g4;rw[hno (by rw[hB,dqt g4];simp)];simp (disch:=omega) only[zS,unC,coC,qw,jV,k1,eu,eb,i2',q1,q2,q3,q4,go_sem]
   repeat' first
    |(refine qj ( jV []) ?_;simp (disch:=omega) only[jV,go_sem])
    |(apply qb;exact rvk;simp only[go_sem];exact qi)
    |with_reducible apply aiA
   all_goals try exact clz
  have q4:((x.col.length:Int)<u.to)=False:=eqf g4;obtain⟨f,hf⟩: ∃f:Nat,u.frm=(f:Int):=⟨u.frm.toNat,om⟩
  obtain⟨t,ht⟩: ∃t:Nat,u.to=(t:Int):=⟨u.to.toNat,om⟩
  have c48:=fun h=>qEF x f t h ho om hn
  have zF:qs6 (qe5 x f t):=qvy x f (t-f) om x.sig.length om;have c49:=fun h=>qFG u.rds (qe5 x f t) h zrd zF
  have eft:qe5 x u.frm.toNat u.to.toNat=qe5 x f t:=by rw[hf,ht,itn,itn]
  rw[dqf g1,dqf g2,dqf g3,dqf g4,eft]at hB;obtain⟨F,hF⟩: ∃F,F=qe5 x f t:=⟨_,rfl⟩
  rw[←hF]at hB;simp only[←hF]at c48 c49;obtain⟨c,hc⟩: ∃c,c=decide (u.rds=F):=⟨_,rfl⟩
  rw[←hc]at hB;simp only[←hc]at c49;rw[hf]at q1 q2 q3;rw[ht]at q3 q4;unfold coC qw at c48;unfold jV at c48 c49;cases c with
  |false=>
   rw[hno hB];simp (disch:=omega) only[zS,unC,coC,qw,jV,k1,eu,eb,i2',q1,q2,q3,q4,hf,ht,go_sem]
   repeat' first
    |((first|refine cG (fun e=>c48 _) ?_ ?_|refine cG (fun e=>c49 _) ?_ ?_);exact flk;simp (disch:=omega) only[go_sem])
    |(apply qb;exact rvk;simp only[go_sem];exact qi)
    |with_reducible apply aiA
   all_goals try exact clz
  |true=>
   simp (disch:=omega) only[zS,unC,coC,qw,jV,k1,eu,eb,i2',q1,q2,q3,q4,hf,ht,go_sem]
   repeat' first
    |((first|refine cG (fun e=>c48 _) ?_ ?_|refine cG (fun e=>c49 _) ?_ ?_);exact flk;simp (disch:=omega) only[go_sem])
    |with_reducible apply aiA
   all_goals try exact clz
   refine hK _ _ (i+1,.mem (qo (some O)+1) 64 (unC u)) ⟨hi,rfl,fun n=>quU u n _ _,hS hB⟩ (by simp only;omega) ?_;simp only[hbs,ht,unC,hf];refine Wk.temps ?_
   (simp only[zS,go_sem,qg,qc,qa,qf];try (repeat' first|(with_reducible apply aiA)|(apply qh;omega)|(apply qe;rfl)|exact qi))
 have k1:((i:Int)<l.length)=False:=eqf om;obtain rfl:i=l.length:=by omega
 have hun:qd6 x l=true:=by
  unfold qd6;rw[qt.2 fun j hj=>by rw[i3 j hj];rfl];rfl
 rw[hun,Bool.true_and]at hR;have hcv:=qt2 hun;clear hK;have c56:=fun h=>qEG x h
 unfold coC qw at c56;simp (disch:=omega) only[coC,qw,k1,go_sem]
 repeat' first
  |(refine cA (c56 _) flk ?_;simp (disch:=omega) only[go_sem])
 obtain⟨rs,hrs⟩: ∃rs,rs=qd3 (cmB x) x.col.length:=⟨_,rfl⟩
 have hrl:=qgG x;have hrg:=fun i hi=>qnv (x:=x) (i:=i) hi
 rw[←hrs]at hrl hcv;simp only[←hrs]at hrg;refine zy (xs:=rnX x) (itR x ho hn) (qnw x)
  (S:=fun i hh=>(∃O8 O9,qJ [O8] 0=true∧qJ [O9] 0=true∧(∀n,lowO n O8)∧(∀n,lowO n O9)∧hh=h++ [.mem 1 26 (coC x),.mem 1 28 [zS l],.mem 1 4 [.bool false],O,O8,O9])∧ ∀j,j<i→rnB l (rs.getD j (0,0))=true)
  (E:=fun s hh=>s= .ret∧R=false∧ ∃O8 O9,(∀n,lowO n O8)∧(∀n,lowO n O9)∧hh=h++ [.mem 1 26 (coC x),.mem 1 28 [zS l],.mem 1 4 [.bool false],O,O8,O9]) ?_ ?_ ?_ ?_ ?_ ?_ ?_
 ·rintro i hh ⟨⟨O8,O9,_,_,l8,l9,rfl⟩,_⟩;refine LowI.app rfl (fun o ho=> ?_);simp only[List.mem_cons,List.not_mem_nil,or_false]at ho;rcases ho with rfl|rfl|rfl|rfl|rfl|rfl
  ·left;simp[coC,qw]
  ·left;simp
  ·left;simp
  ·left;simp
  ·right;exact⟨l8 _,l8 _⟩
  ·right;exact⟨l9 _,l9 _⟩
 ·rintro s hh ⟨_,_,O8,O9,l8,l9,rfl⟩;refine LowI.app rfl (fun o ho=> ?_);simp only[List.mem_cons,List.not_mem_nil,or_false]at ho;rcases ho with rfl|rfl|rfl|rfl|rfl|rfl
  ·left;simp[coC,qw]
  ·left;simp
  ·left;simp
  ·left;simp
  ·right;exact⟨l8 _,l8 _⟩
  ·right;exact⟨l9 _,l9 _⟩
 ·exact⟨⟨.emp 0,.emp 0,rfl,rfl,fun _=>trivial,fun _=>trivial,rfl⟩,fun j hj=>absurd hj (nnz j)⟩
 ·have lu: ∀n,qV n (zS l)=true:=fun _=>rfl
  have lt: ∀n,qV n (qm x.tok)=true:=fun _=>rfl
  simp[qV,qV.lowVs,lu,lt,qhD]
  try omega
 ·rintro i hh tl LI TS hi ⟨⟨O8,O9,s8,s9,l8,l9,rfl⟩,hj⟩ hlen K K2 hK hN hR' hX;rw[hrg i hi];rw[hrl]at hi;obtain⟨⟨f,t⟩,hr⟩: ∃r,r=rs.getD i (0,0):=⟨_,rfl⟩
  have er:=hr.symm;rw[er];have s8': ∀m,qJ (O8::m) 0=true:=fun _=>s8
  have s9': ∀m,qJ (O9::m) 0=true:=fun _=>s9
  simp only[kJ];simp (disch:=omega) only[List.append_assoc,coC,s8',s9',go_sem];refine hK _ _ (h++ [.mem 1 26 (coC x),.mem 1 28 [zS l],.mem 1 4 [.bool false],O,.mem (qo (some O8)+1) 3 [.int .i64 (f:Int)],.mem (qo (some O9)+1) 3 [.int .i64 (t:Int)]]) (by simp[coC]) (by simp) ?_;simp (disch:=omega) only[List.append_assoc,go_sem]
  repeat' first
   |with_reducible apply aiA
  all_goals try exact clz
  refine cA (qEY l f t (h.length+4) _ (h.length+5) _ _ ?ka ?kb hl) (by exact flk) ?_
  case ka=>simp only[go_sem]
  case kb=>simp only[go_sem]
  have l8': ∀n,lowO n (.mem (qo (some O8)+1) 3 [.int .i64 (f:Int)]):=fun n c hc=>by simp at hc;subst hc;rfl
  have l9': ∀n,lowO n (.mem (qo (some O9)+1) 3 [.int .i64 (t:Int)]):=fun n c hc=>by simp at hc;subst hc;rfl
  cases hb:rnB l (f,t)with
  |true=>
   simp (disch:=omega) only[go_sem];refine hN _ _ (h++ [.mem 1 26 (coC x),.mem 1 28 [zS l],.mem 1 4 [.bool false],O,.mem (qo (some O8)+1) 3 [.int .i64 (f:Int)],.mem (qo (some O9)+1) 3 [.int .i64 (t:Int)]]) (by simp[coC]) (by simp) ⟨⟨_,_,rfl,rfl,l8',l9',rfl⟩,fun j hj'=> ?_⟩
   by_cases e:j=i
   ·subst e;rw[er];exact hb
   ·exact hj j om
  |false=>
   have hRf:R=false:=by
    rw[hR];cases hc:cvA x l with
    |false=>rfl
    |true=>
     have h2:=List.all_eq_true.1 (hcv.2 hc) (f,t) (by rw[hr,gdqA,zL hi];exact List.getElem_mem hi);rw[hb]at h2;cases h2
   simp (disch:=omega) only[go_sem];refine hR' _ _ (h++ [.mem 1 26 (coC x),.mem 1 28 [zS l],.mem 1 4 [.bool false],O,.mem (qo (some O8)+1) 3 [.int .i64 (f:Int)],.mem (qo (some O9)+1) 3 [.int .i64 (t:Int)]]) (by simp[coC]) (by simp) ⟨rfl,hRf,_,_,l8',l9',rfl⟩
 ·rintro hh ⟨⟨O8,O9,s8,s9,l8,l9,rfl⟩,hj⟩;have hRt:R=true:=by
   rw[hR];refine hcv.1 (List.all_eq_true.2 fun r hr=> ?_);obtain⟨j,hj1,rfl⟩:=List.getElem_of_mem hr
   have:=hj j (by rw[hrl];exact hj1)
   rw[gdqA,zL hj1]at this;exact this
  rw[hRt];simp (disch:=omega) only[go_sem]
  repeat' first
   |(apply qb;exact rvk;simp only[go_sem];exact qi)
 ·rintro e hh ⟨rfl,hRf,O8,O9,l8,l9,rfl⟩;rw[hRf];simp (disch:=omega) only[go_sem]
  repeat' first
   |(apply qb;exact rvk;simp only[go_sem];exact qi)
theorem vaP(x:Co)(l:List Un)(h:List AObj)(hz:qdE x)(hu:qik l)(hp:kQ SG h):ACalls Tryz.prog 69 [.agg (coC x),zS l] h (.int .i64 (vaE x l)) h:=by
 have c1:=fun l'=>coP x (h++l') hz (hp.app l')
 unfold vaE
 by_cases g:coE x=0
 case neg=>
  have k1:(coE x=0)=False:=eqf g;rw[ipo g];obtain⟨e,he⟩: ∃e,e=coE x:=⟨_,rfl⟩
  rw[←he]at c1 k1;unfold coC at c1;refine acO qzP ?_;simp (disch:=omega) only[qCk,coC,go_sem]
  repeat' first
   |(refine cA (c1 _) flk ?_;simp (disch:=omega) only[k1,go_sem])
   |(apply qb;exact rvk;simp only[go_sem];exact qi)
 rw[ine (fun hc=>hc g)];have c2:=fun h=>qFA x l h (qci g) hz.cl hu
 rw[g]at c1;unfold coC at c1 c2;cases g2:rgB x l<;>rw[g2]at c2
 all_goals
  refine acO qzP ?_;simp (disch:=omega) only[qCk,coC,go_sem]
  repeat' first
   |((first|refine cA (c1 _) ?_ ?_|refine cA (c2 _) ?_ ?_);exact flk;simp (disch:=omega) only[go_sem])
   |(apply qb;exact rvk;simp only[go_sem];exact qi)
theorem jr{α:Type}{L:List α}{a:α}{i:Nat}(h:i<L.length):L.getD i a∈L:=by
 rw[gdqA,zL h];exact List.getElem_mem h
theorem qep{α:Type}{L:List α}{a b:α}{i:Nat}(h:i<L.length):(L.set i b).getD i a=b:=by
 rw[gdqA,List.getElem?_set,ipo rfl,ipo h];rfl
def bgn(c:UInt8):Bool:=decide (kind c=1)||decide (kind c=3)
theorem qcG{c:UInt8}(h:bgn c=true):qaV c=true:=by
 unfold bgn at h;unfold qaV;rw[Bool.or_eq_true]at h ⊢;rcases h with h|h
 ·exact .inl h
 ·exact .inr (by rw[h];rfl)
def tkF(f:Int)(w:Str):Tk:=⟨w,[],[],0,f,[]⟩
structure Bs where
 done:List Tk
 opn:Bool
 fl:Int
 word:Str
 jn:Bool
def Bs.fin(b:Bs):List Tk:=b.done++if b.opn=true then [tkF b.fl b.word] else []
def Bs.out(b:Bs):List Tk:=b.done++if b.opn=true then [tkF b.fl []] else []
def jfl(j:Bool)(n:Nat):Int:=if j=true∧0<n then 16 else 0
def Bs.stp(b:Bs)(c:UInt8):Bs:=
 if b.opn=true∧qaV c=true then ⟨b.done,true,b.fl,b.word++ [c],b.jn⟩
 else if bgn c=true then ⟨b.fin,true,jfl b.jn b.fin.length,[c],true⟩
 else if kind c=6 then ⟨b.fin,false,0,[],false⟩
 else ⟨b.fin++ [tkF (8+jfl b.jn b.fin.length) [c]],false,0,[],true⟩
def bs0:Bs:=⟨[],false,0,[],false⟩
def bsL(s:Str):Bs:=s.foldl Bs.stp bs0
theorem qhm(s:Str)(c:UInt8):bsL (s++ [c])=(bsL s).stp c:=by unfold bsL;rw[List.foldl_append];rfl
def tkN(t:Tk):Tk:=⟨t.text,t.text,t.page,t.line,t.flags,t.name⟩
def qbh(s:Str):List Tk:=(bsL s).fin
def qf2(s:Str):List Tk:=(qbh s).map tkN
def quS(L:List Tk):Bool:=ju (fun j=>decide (64<(L.getD j default).text.length)) L.length
def qh6(s:Str):Int:=if quS (qbh s)=true then 4 else 0
def TkG(t:Tk):Prop:=t=tkF t.flags t.text∧(((t.flags=0∨t.flags=16)∧ ∃c r,t.text=c::r∧bgn c=true∧ ∀b∈r,qaV b=true)∨((t.flags=8∨t.flags=24)∧ ∃c,t.text= [c]∧bgn c=false∧kind c≠6))
structure qo4 (s:Str) (b:Bs):Prop where
 cl:b.opn=false→b.word= []∧b.fl=0
 op:b.opn=true→TkG (tkF b.fl b.word)∧b.jn=true∧(b.fl=0∨b.fl=16)
 dn: ∀t∈b.done,TkG t
 len:b.fin.length≤s.length
 cat:(b.fin.map Tk.text).flatten=s.filter fun c=> !decide (kind c=6)
theorem Bs.fin_ok{s:Str}{b:Bs}(h:qo4 s b): ∀t∈b.fin,TkG t:=by
 intro t ht;unfold Bs.fin at ht;rcases List.mem_append.1 ht with ht|ht
 ·exact h.dn t ht
 ·split at ht
  ·rename_i ho;rw[List.mem_singleton]at ht;subst ht;exact (h.op ho).1
  ·cases ht
theorem qmk{c:UInt8}(h:qaV c=true):kind c≠6:=by
 unfold qaV at h;simp only[Bool.or_eq_true,decide_eq_true_eq]at h;omega
theorem qfA(j:Bool)(n:Nat):jfl j n=0∨jfl j n=16:=by
 unfold jfl;split
 ·exact .inr rfl
 ·exact .inl rfl
theorem qbr(s:Str)(c:UInt8):(s++ [c]).filter (fun c=> !decide (kind c=6))=s.filter (fun c=> !decide (kind c=6))++if kind c=6 then [] else [c]:=by
 rw[List.filter_append];congr 1
 by_cases h:kind c=6
 ·simp[h]
 ·simp[h]
theorem qA5{s:Str}{b:Bs}(h:qo4 s b)(c:UInt8):qo4 (s++ [c]) (b.stp c):=by
 have hf:=Bs.fin_ok h;have hl:=h.len;have hc:=h.cat;unfold Bs.stp;split
 ·rename_i g;obtain⟨g1,g2⟩:=g;obtain⟨⟨_,k1⟩,k2,k3⟩:=h.op g1;have kw: ∃e r,b.word=e::r∧bgn e=true∧ ∀x∈r,qaV x=true:=by
   rcases k1 with⟨_,k⟩|⟨k,_⟩
   ·exact k
   ·exact absurd k (by have:(tkF b.fl b.word).flags=b.fl:=rfl;rw[this];omega)
  refine⟨fun e=>(by cases e),fun _=>⟨⟨rfl,.inl ⟨k3,?_⟩⟩,k2,k3⟩,h.dn,?_,?_⟩
  ·obtain⟨e,r,e1,e2,e3⟩:=kw;refine⟨e,r++ [c],?_,e2,fun x hx=> ?_⟩
   ·show b.word++ [c]=_;rw[e1];rfl
   ·rcases List.mem_append.1 hx with hx|hx
    ·exact e3 x hx
    ·rw[List.mem_singleton]at hx;subst hx;exact g2
  ·unfold Bs.fin at hl ⊢;simp only[g1,if_true,lap,lco,lnl]at hl ⊢;omega
  ·unfold Bs.fin at hc ⊢;rw[qbr,ine (qmk g2),←hc];simp[g1,tkF]
 rename_i g;split
 ·rename_i g2;have j:=qfA b.jn b.fin.length;refine⟨fun e=>(by cases e),fun _=>⟨⟨rfl,.inl ⟨j,c,[],rfl,g2,fun x hx=>by cases hx⟩⟩,rfl,j⟩,hf,?_,?_⟩
  ·show (b.fin++ [_]).length≤_;simp only[lap,lco,lnl];omega
  ·show ((b.fin++ [tkF _ [c]]).map Tk.text).flatten=_;rw[qbr,ine (qmk (qcG g2)),List.map_append,List.flatten_append,hc];rfl
 rename_i g2;have g2:bgn c=false:=by simpa using g2
 split
 ·rename_i g3;refine⟨fun _=>⟨rfl,rfl⟩,fun e=>(by cases e),hf,?_,?_⟩
  ·show (b.fin++ []).length≤_;simp only[lap,lnl,lco];omega
  ·show ((b.fin++ []).map Tk.text).flatten=_;rw[lan,qbr,ipo g3,hc,lan]
 ·rename_i g3;have j:=qfA b.jn b.fin.length;refine⟨fun _=>⟨rfl,rfl⟩,fun e=>(by cases e),fun t ht=> ?_,?_,?_⟩
  ·rcases List.mem_append.1 ht with ht|ht
   ·exact hf t ht
   ·rw[List.mem_singleton]at ht;subst ht;refine⟨rfl,.inr ⟨?_,c,rfl,g2,g3⟩⟩;show 8+jfl b.jn b.fin.length=8∨8+jfl b.jn b.fin.length=24;omega
  ·show (b.fin++ [_]++ []).length≤_;simp only[lap,lnl,lco];omega
  ·show ((b.fin++ [tkF _ [c]]++ []).map Tk.text).flatten=_;rw[lan,qbr,ine g3,List.map_append,List.flatten_append,hc];rfl
theorem qff(s:Str):qo4 s (bsL s):=by
 have key: ∀n,n≤s.length→qo4 (s.take n) (bsL (s.take n)):=by
  intro n
  induction n with
  |zero=>intro _;exact⟨fun _=>⟨rfl,rfl⟩,fun e=>(by cases e),fun t ht=>(by cases ht),nlr _,rfl⟩
  |succ n ih=>
   intro hn;rw[List.take_add_one,zL hn];show qo4 (s.take n++ [s[n]]) (bsL (s.take n++ [s[n]]));rw[qhm];exact qA5 (ih om) _
 have:=key s.length (nlr _)
 rwa [List.take_length]at this
theorem qh8(s:Str): ∀t∈qbh s,TkG t:=Bs.fin_ok (qff s)
theorem qf3(s:Str):(qbh s).length≤s.length:=(qff s).len
theorem qeR(s:Str):(qf2 s).length≤s.length:=by unfold qf2;rw[List.length_map];exact qf3 s
theorem TkG.ne{t:Tk}(h:TkG t):t.text≠ []:=by
 rcases h.2 with⟨_,c,r,e,_⟩|⟨_,c,e,_⟩<;>rw[e]<;>exact List.cons_ne_nil _ _
theorem qde{L:List Str}{w:Str}(h:w∈L):w.length≤L.flatten.length:=by
 induction L with
 |nil=>cases h
 |cons a r ih=>
  rw[List.flatten_cons,lap];rcases List.mem_cons.1 h with rfl|h
  ·omega
  ·have:=ih h;omega
theorem qg3(s:Str){t:Tk}(ht:t∈qf2 s): ∃u,TkG u∧t=tkN u∧u∈qbh s:=by
 unfold qf2 at ht;obtain⟨u,hu,rfl⟩:=List.mem_map.1 ht;exact⟨u,qh8 s u hu,rfl,hu⟩
theorem qb4{L:List Tk}:quS L=false↔ ∀t∈L,t.text.length≤64:=by
 unfold quS;rw[qt];constructor
 ·intro h t ht;obtain⟨j,hj,rfl⟩:=List.getElem_of_mem ht
  have:=of_decide_eq_false (h j hj)
  rw[gdqA,zL hj,Option.getD_some]at this;omega
 ·intro h j hj
  have:=h (L.getD j default) (by rw[gdqA,zL hj];exact List.getElem_mem hj)
  exact dqf om
theorem qv2{s:Str}:qh6 s=0↔ ∀t∈qbh s,t.text.length≤64:=by
 unfold qh6;rw[←qb4];cases quS (qbh s)
 ·simp
 ·simp
def qjX(s:Str):Int:=if zU s≠0 then zU s else qh6 s
def qsX(s:Str):List Str:=if qjX s=0 then (qf2 s).map Tk.text else []
structure Dc where
 kind:Int
 sig:Str
 tok:Int
 txt:Str
instance:Inhabited Dc:=⟨⟨0,[],0,[]⟩⟩
def dcC(d:Dc):List AV:= [.int .i64 d.kind,.str d.sig,.int .i64 d.tok,.str d.txt]
def kl(l:List Dc):AV:= .sl l.length fun i=>dcC (l.getD i default)
theorem qlS(l:List Dc):(kl l).flag=true:=rfl
theorem qjw(l:List Dc):(kl l).strip=kl l:=rfl
theorem qrg{fz:Nat→Bool}{h:List AObj}{n:Nat}(l:List Dc):rei fz h (n+1) (kl l)=kl l:=rfl
theorem qqh{fz:Nat→Bool}{h:List AObj}{n:Nat}(l:List Dc):frz fz h (n+1) (kl l)=kl l:=rfl
attribute [go_sem] qlS qjw qrg qqh
end RC
end
