import Derived.Test.YthjkfdakolejgaaGreatDoorK8
import Derived.Test.YthjkfdakolejgaaGreatDoorK3
import Derived.Test.YthjkfdakolejgaaGreatDoorK5
import Derived.Test.YthjkfdakolejgaaGreatDoorProg
import Derived.Test.YthjkfdakolejgaaGreatDoorK4
import Derived.Below
import Derived.Test.YthjkfdakolejgaaGreatDoorK1
import Derived.Lib.AppendIntMem
import Derived.Stop.LaidErr
import Derived.Lib.ItoaLen
set_option linter.all false
set_option linter.unusedSimpArgs false
set_option linter.unusedVariables false
set_option linter.unusedSectionVars false
set_option maxHeartbeats 64000000
set_option maxRecDepth 100000
section
open Go Go.Proofs AF HY
namespace HY
theorem qFP(c:UInt8)(h:List AObj):ACalls Tryz.prog 178 [.int .u8 (c.toNat:Int)] h (.bool (spc c)) h:=by
 refine qE qy2 (by simp) ?_;simp only[lco,lnl,Nat.reduceAdd,Nat.reduceSub,List.replicate,lca,lna,lan];simp (disch:=omega) only[qxs,go_sem]
 repeat' first
  |(refine qH (qcE c _) ?_ ?_;exact flk;simp (disch:=omega) only[go_sem])
  |(apply qd;exact rvk;simp only[go_sem];exact qi)
def qaE(s:List UInt8):AV:= .sl s.length fun i=> [.int .u8 ((s.getD i 0).toNat:Int)]
def qcy(p:UInt8→Bool):List UInt8→Nat→Int
 | [],_=> -1
 |c::r,i=>if p c=true then i else qcy p r (i+1)
theorem qlP(p:UInt8→Bool): ∀(s:List UInt8) (i:Nat),(0≤qcy p s i↔s.any p=true)∧ -1≤qcy p s i:=by
 intro s
 induction s with
 |nil=>intro i;simp[qcy]
 |cons c r ih=>
  intro i
  by_cases hc:p c=true
  ·have e:qcy p (c::r) i=i:=ipo hc;rw[e,List.any_cons,hc];simp
   try omega
  ·have e:qcy p (c::r) i=qcy p r (i+1):=ine hc;rw[e,List.any_cons];have hc':p c=false:=by simpa using hc
   rw[hc',Bool.false_or];exact ih (i+1)
theorem qlO(p:UInt8→Bool)(s:List UInt8)(i:Nat):decide (0≤qcy p s i)=s.any p:=by
 rw[Bool.eq_iff_iff,decide_eq_true_eq];exact (qlP p s i).1
theorem qFS(s:List UInt8)(p:UInt8→Bool)(F:Nat)(h:List AObj)(hs:s.length≤1000000000)(hp: ∀(c:UInt8) (h:List AObj),ACalls Tryz.prog F [.int .u8 (c.toNat:Int)] h (.bool (p c)) h):ACalls Tryz.prog 227 [qaE s,.fn (.func F) [] []] h (.int .i64 (qcy p s 0)) h:=by
 refine qE qzn (by simp) ?_;simp only[lco,lnl,Nat.reduceAdd,Nat.reduceSub,List.replicate,lca,lna,lan];simp (disch:=omega) only[qxL,qaE,go_sem];refine qu (T:=fun i:Nat=>ze 19 [(0,qaE s),(1,.fn (.func F) [] []),(6,qaE s),(7,.int .i64 s.length),(8,.int .i64 i)]) (H:=fun _=>h) (inv:=fun i=>i≤s.length∧qcy p s 0=qcy p (s.drop i) i) (m:=fun i=>s.length-i) 0 ⟨om,by simp⟩ (Wk.temps ?_) ?_
 ·(simp only[qaE,ze,List.foldl,go_sem,qg,qc,qa,qf];try (repeat' first|(with_reducible apply aiA)|(apply qh;omega)|(apply qe;rfl)|exact qi))
 ·rintro i ⟨i1,i2⟩ K hK;rw[i2]
  by_cases hi:i<s.length
  ·have e:s.drop i=s.getD i 0::s.drop (i+1):=by rw[List.drop_eq_getElem_cons hi];simp[gdqA,hi]
   rw[e]at i2 ⊢;simp only[qcy]at i2 ⊢;have hpc:=fun h=>hp (s.getD i 0) h
   cases hb:p (s.getD i 0)with
   |true=>
    rw[hb]at hpc;simp (disch:=omega) only[ze,List.foldl,qaE,go_sem]
    repeat' first
     |(refine qy (hpc _) ?_;simp (disch:=omega) only[go_sem,qp])
     |(apply qd;exact rvk;simp only[go_sem];first|exact qi|apply qh)
     |with_reducible first|intro _|apply aiA
    all_goals try exact clz
   |false=>
    rw[hb]at hpc i2;simp (disch:=omega) only[ze,List.foldl,qaE,go_sem]
    repeat' first
     |(refine qy (hpc _) ?_;simp (disch:=omega) only[go_sem,qp])
     |(apply qd;exact rvk;simp only[go_sem];apply qh)
     |with_reducible first|intro _|apply aiA
    all_goals try exact clz
    refine hK _ _ (i+1) ⟨om,by rw[i2];simp⟩ om (Wk.temps ?_)
    (simp only[qaE,ze,List.foldl,go_sem,qg,qc,qa,qf];try (repeat' first|(with_reducible apply aiA)|(apply qh;omega)|(apply qe;rfl)|exact qi))
  ·have e:i=s.length:=by omega
   subst e;rw[List.drop_length];simp (disch:=omega) only[ze,List.foldl,qaE,go_sem]
   repeat' first
    |(apply qd;exact rvk;simp only[go_sem];exact qi)
    |with_reducible first|intro _|apply aiA
   all_goals try exact clz
theorem qFO(s:List UInt8)(p:UInt8→Bool)(F:Nat)(h:List AObj)(hs:s.length≤1000000000)(hp: ∀(c:UInt8) (h:List AObj),ACalls Tryz.prog F [.int .u8 (c.toNat:Int)] h (.bool (p c)) h):ACalls Tryz.prog 177 [qaE s,.fn (.func F) [] []] h (.bool (s.any p)) h:=by
 rw[←qlO p s 0];refine qE qy1 (by simp) ?_;simp only[lco,lnl,Nat.reduceAdd,Nat.reduceSub,List.replicate,lca,lna,lan];simp (disch:=omega) only[qxr,qaE,go_sem]
 repeat' first
  |(refine qH (qFS s p F _ hs hp) ?_ ?_;exact flk;simp (disch:=omega) only[go_sem])
  |(apply qd;exact rvk;simp only[go_sem];exact qi)
theorem t88(s:List UInt8)(h:List AObj)(hs:s.length≤1000000000):ACalls Tryz.prog 129 [.str s] h (.bool (kE s)) h:=by
 obtain⟨c,hc⟩: ∃c,c=zU s:=⟨_,rfl⟩
 have h104: ∀h:List AObj,ACalls Tryz.prog 172 [.str s] h (.int .i64 c) h:=fun h=>by rw[hc];exact qDI s h hs
 have hw:kE s=(decide (0<s.length)&&decide (s.length≤64)&&decide (c=0)&&(decide (kind (ch s 0)=1)||decide (kind (ch s 0)=3))&& !(s.any spc)):=by rw[hc];rfl
 rw[hw]
 by_cases g1:0<s.length
 ·have k1:(s= [])=False:=eqf (by intro e;rw[e]at g1;simp at g1)
  by_cases g2:s.length≤64
  ·have k2:(64<(s.length:Int))=False:=eqf om
   by_cases g3:c=0
   ·refine qE qht (by simp) ?_;simp only[lco,lnl,Nat.reduceAdd,Nat.reduceSub,List.replicate,lca,lna,lan];simp (disch:=omega) only[qkY,k1,k2,g3,go_sem]
    repeat' first
     |((first|refine qH (qcE _ _) ?_ ?_|refine qH (qFO s spc 178 _ hs qFP) ?_ ?_);exact flk;simp (disch:=omega) only[go_sem])
     |(refine qO (fun e=>⟨?_,h104 _⟩) ?_;exact flk;simp (disch:=omega) only[g3,ke,go_sem])
     |(apply qd;exact rvk;simp only[go_sem];apply qe)
     |with_reducible first|intro _|apply aiA
    all_goals try exact clz
    all_goals (generalize s.any spc=b;grind)
   ·refine qE qht (by simp) ?_;simp only[lco,lnl,Nat.reduceAdd,Nat.reduceSub,List.replicate,lca,lna,lan];simp (disch:=omega) only[qkY,k1,k2,go_sem]
    repeat' first
     |(refine qO (fun e=>⟨?_,h104 _⟩) ?_;exact flk;simp (disch:=omega) only[g3,ke,go_sem])
     |(apply qd;exact rvk;simp only[go_sem];exact qi)
    all_goals (generalize s.any spc=b;grind)
  ·have k2:(64<(s.length:Int))=True:=eqt om;refine qE qht (by simp) ?_;simp only[lco,lnl,Nat.reduceAdd,Nat.reduceSub,List.replicate,lca,lna,lan];simp (disch:=omega) only[qkY,k1,k2,go_sem]
   repeat' first
    |(refine qj ((.int .i64 0)) ?_;simp (disch:=omega) only[go_sem])
    |(apply qd;exact rvk;simp only[go_sem];apply qe)
   all_goals (generalize s.any spc=b;grind)
 ·have e:s= []:=List.eq_nil_of_length_eq_zero om;subst e;refine qE qht (by simp) ?_;simp only[lco,lnl,Nat.reduceAdd,Nat.reduceSub,List.replicate,lca,lna,lan];simp (disch:=omega) only[qkY,go_sem]
  repeat' first
   |(refine qj ((.int .i64 0)) ?_;simp (disch:=omega) only[go_sem])
   |(apply qd;exact rvk;simp only[go_sem];exact qi)
  all_goals (generalize List.any _ spc=b;grind)
end HY
end
section
open Go Go.Proofs AF
def qab:List Nat:= []
theorem qzM:qM Tryz.prog 36 26 0 [RV.tmp 4] cEQ:=fi Tryz.f36 [] qab []
theorem qC0:qM Tryz.prog 50 26 0 [RV.tmp 4] cEQ:=fi Tryz.f50 [] qab []
theorem qyR:qM Tryz.prog 160 9 0 [RV.tmp 4] (cCT 22):=fi Tryz.f160 [] qab []
theorem qCS:qM Tryz.prog 22 19 0 [RV.tmp 4] cIX:=fi Tryz.f22 [] qab []
theorem qyW:qM Tryz.prog 170 19 0 [RV.tmp 4] (cIF 1 none):=fi Tryz.f170 [] qab []
def qxz:C:=
 ((C.ops [MC 4 (.str []),MC 5 (.bool false)]).seq ((C.ops [MV 6 0,MV 7 1,O2 8 (.call 241 true) 6 7,O1 9 (.ext 0) 8,O1 10 (.ext 1) 8,MV 4 9,MV 5 10]).seq
 C.ret))
theorem qy9:qM Tryz.prog 205 11 0 [RV.tmp 4,RV.tmp 5] qxz:=fi Tryz.f205 [] qab []
def qxi:C:=
 ((C.ops [MC 4 (.bool false)]).seq (((C.ops [MC 5 (i6 0)]).seq (C.block 0 (((C.ops [MV 6 5,MV 7 0,O1 8 .len 7,BI 9 .lss 6 8]).seq (C.cond (.t 9) C.skip (C.exit 0))).seq ((C.block
 1 ((C.ops [MV 12 0,MV 13 5,O2 14 (.idxA 1) 12 13,LD 15 14,O1 16 .slen 15,BC 17 .gtr 16 (i6 20)]).seq (C.cond (.t 17) ((C.ops [MC 4 (.bool true)]).seq C.ret) C.skip))).seq
 (C.ops [MV 10 5,BC 11 .add 10 (i6 1),MV 5 11]))).loop)).seq ((C.ops [MV 18 0,O1 19 .len 18,MV 20 1,BI 21 .gtr 19 20,MV 4 21]).seq
 C.ret)))
theorem qyQ:qM Tryz.prog 146 22 0 [RV.tmp 4] qxi:=fi Tryz.f146 [] qab []
def qty:C:=
 ((C.ops [MC 4 (.str []),MC 5 (.bool false)]).seq (((C.ops [MV 6 0,MV 7 1,O2 8 (.call 271 true) 6 7,O1 9 (.un UnOp.not) 8]).seq (C.cond (.t 9) ((C.ops [MV 10 0,MV 4 10,MC 5
 (.bool false)]).seq C.ret) C.skip)).seq ((C.ops [MV 11 0,MV 12 0,O1 13 .slen 12,MV 14 1,O1 15 .slen 14,BI 16 .sub 13 15,O2 17 (.sslc false true) 11 16,MV 4 17,MC 5 (.bool
 true)]).seq
 C.ret)))
theorem qsx:qM Tryz.prog 241 18 0 [RV.tmp 4,RV.tmp 5] qty:=fi Tryz.f241 [] qab []
def jX:C:=
 ((C.ops [O1 1 (.box 0 103) 0,MC 2 (i6 0)]).seq (((C.ops [O1 6 (.fldA 4) 1,LD 7 6,BC 8 .lss 7 (i6 0),MV 9 8,P1 10 9 false (.fldA 4) 1,P1 11 9 false (.load none) 10,PC 12 9
 false (.bin .gtr) 11 (i6 31),PT 13 9 12]).seq (C.cond (.t 13) ((C.ops [MC 2 (i6 2)]).seq C.ret) C.skip)).seq ((C.ops [O1 14 (.load (some 6)) 1,OC 15 (.call 181 true) 14 (i6 2),
 O1 16 (.load (some 6)) 1,OC 17 (.call 181 true) 16 (i6 8),MV 3 15,MV 4 17]).seq (((C.ops [MV 18 3,MV 19 18,MG 20 19 true 4,PF 21 19 20]).seq (C.cond (.t 21) ((C.ops [MC 2 (i6
 8)]).seq C.ret) C.skip)).seq ((C.block 0 ((C.ops [MV 51 3,MV 50 51]).seq (C.cond (.t 50) ((C.ops [O1 52 (.fldA 0) 1,LD 53 52,O1 54 (.call 182 true) 53,O1 55 (.un UnOp.not) 54,
 MV 56 55,P1 57 56 false (.fldA 1) 1,P1 58 56 false (.load none) 57,P1 59 56 false (.fldA 0) 1,P1 60 56 false (.load none) 59,P2 61 56 false (.bin .neq) 58 60,PT 62 56
 61]).seq (C.cond (.t 62) ((C.ops [MC 2 (i6 11)]).seq C.ret) C.skip)) ((C.ops [MV 64 4,MV 63 64]).seq (C.cond (.t 63) ((C.ops [O1 65 (.fldA 0) 1,LD 66 65,O1 67 .slen 66,BC 68
 .neq 67 (i6 1),MV 69 68,P1 70 69 false (.fldA 0) 1,P1 71 69 false (.load none) 70,PC 72 69 false .sidx 71 (i6 0),P1 73 69 false (.call 94 true) 72,PC 74 69 false (.bin .neq)
 73 (i6 5),MG 75 69 false 74,P1 76 75 true (.fldA 0) 1,P1 77 75 true (.load none) 76,PC 78 75 true .sidx 77 (i6 0),P1 79 75 true (.call 94 true) 78,PC 80 75 true (.bin .neq)
 79 (i6 4),QF 81 69 false 75 80,PT 82 69 81,MV 83 82,P1 84 83 false (.fldA 1) 1,P1 85 83 false (.load none) 84,P1 86 83 false (.fldA 0) 1,P1 87 83 false (.load none) 86,P2
 88 83 false (.bin .neq) 85 87,PT 89 83 88]).seq (C.cond (.t 89) ((C.ops [MC 2 (i6 11)]).seq C.ret) C.skip)) (((C.ops [O1 22 (.fldA 0) 1,LD 23 22,O1 24 (.call 41 true) 23,O1 25
 (.un UnOp.not) 24,MV 26 25,P1 27 26 false (.fldA 1) 1,P1 28 26 false (.load none) 27,PC 29 26 false (.bin .eql) 28 (.str []),PT 30 26 29,MV 31 30,P1 32 31 false (.fldA 1) 1,
 P1 33 31 false (.load none) 32,P1 34 31 false .slen 33,PC 35 31 false (.bin .gtr) 34 (i6 64),PT 36 31 35]).seq (C.cond (.t 36) ((C.ops [MC 2 (i6 11)]).seq C.ret) C.skip)).seq
 ((C.ops [MC 5 (i6 0)]).seq (C.block 1 (((C.ops [MV 37 5,O1 38 (.fldA 1) 1,LD 39 38,O1 40 .slen 39,BI 41 .lss 37 40]).seq (C.cond (.t 41) C.skip (C.exit 1))).seq ((C.block 2
 ((C.ops [O1 44 (.fldA 1) 1,LD 45 44,MV 46 5,O2 47 .sidx 45 46,O1 48 (.call 183 true) 47,O1 49 (.un UnOp.not) 48]).seq (C.cond (.t 49) ((C.ops [MC 2 (i6 11)]).seq C.ret)
 C.skip))).seq (C.ops [MV 42 5,BC 43 .add 42 (i6 1),MV 5 43]))).loop)))))))).seq (((C.ops [O1 90 (.fldA 2) 1,O1 91 (.fldA 1) 90,LD 92 91,BC 93 .lss 92 (i6 0)]).seq (C.cond (.t
 93) ((C.ops [MC 2 (i6 2)]).seq C.ret) C.skip)).seq (((C.ops [O1 94 (.fldA 2) 1,O1 95 (.fldA 0) 94,LD 96 95,O1 97 (.call 184 true) 96,O1 98 (.un UnOp.not) 97,MV 99 98,P1 100
 99 false (.fldA 5) 1,P1 101 99 false (.load none) 100,P1 102 99 false (.call 184 true) 101,P1 103 99 false (.un UnOp.not) 102,PT 104 99 103]).seq (C.cond (.t 104) ((C.ops [MC 2
 (i6 14)]).seq C.ret) C.skip)).seq ((C.ops [MC 2 (i6 0)]).seq
 C.ret))))))))
theorem zZ:qM Tryz.prog 138 105 1 [RV.tmp 2] jX:=fi Tryz.f138 [1] qab []
def qxv:C:=
 ((C.ops [O1 2 (.box 0 103) 0,MC 4 (.bool false)]).seq ((C.ops [O1 5 (.fldA 4) 2,LD 6 5,MV 7 1,BI 8 .quo 6 7,BC 9 .rem 8 (i6 2),BC 10 .eql 9 (i6 1),MV 4 10]).seq
 C.ret))
theorem qy5:qM Tryz.prog 181 11 1 [RV.tmp 4] qxv:=fi Tryz.f181 [2] qab []
def qxw:C:=
 ((C.ops [MC 2 (.bool false)]).seq (((C.ops [MC 3 (i6 1)]).seq (C.block 0 (((C.ops [MV 4 3,BC 5 .leq 4 (i6 64)]).seq (C.cond (.t 5) C.skip (C.exit 0))).seq ((C.block 1 ((C.ops [MV
 8 0,MV 9 3,O1 10 (.call 152 true) 9,ON 11 (.bin .add) [.c (.str [91]),.t 10],BC 12 .add 11 (.str [93]),BI 13 .eql 8 12]).seq (C.cond (.t 13) ((C.ops [MC 2 (.bool true)]).seq
 C.ret) C.skip))).seq (C.ops [MV 6 3,BC 7 .add 6 (i6 1),MV 3 7]))).loop)).seq ((C.ops [MC 2 (.bool false)]).seq
 C.ret)))
theorem qy6:qM Tryz.prog 182 14 0 [RV.tmp 2] qxw:=fi Tryz.f182 [] qab []
def qk2:C:=
 ((C.ops [MC 2 (.bool false)]).seq ((C.ops [MV 4 0,O1 5 (.call 94 true) 4,MV 3 5]).seq ((C.ops [MV 6 3,BC 7 .eql 6 (i6 1),MV 8 7,MG 9 8 false 3,PC 10 8 false (.bin .eql) 9 (i6
 2),PT 11 8 10,MV 12 11,MG 13 12 false 3,PC 14 12 false (.bin .eql) 13 (i6 3),PT 15 12 14,MV 16 15,MG 17 16 false 3,PC 18 16 false (.bin .eql) 17 (i6 4),PT 19 16 18,MV 2
 19]).seq
 C.ret)))
theorem qhx:qM Tryz.prog 183 20 0 [RV.tmp 2] qk2:=fi Tryz.f183 [] qab []
def qtr:C:=
 ((C.ops [MC 2 (.bool false)]).seq ((C.ops [MV 3 0,BC 4 .eql 3 (.str []),MV 5 4,MG 6 5 false 0,P1 7 5 false (.call 136 true) 6,PT 8 5 7,MV 2 8]).seq
 C.ret))
theorem qsp:qM Tryz.prog 184 9 0 [RV.tmp 2] qtr:=fi Tryz.f184 [] qab []
end
section
open Go Go.Proofs AF HY LN
namespace RC
abbrev Str:=List UInt8
def qI(L:List Int):AV:= .sl L.length fun i=> [.int .i64 (L.getD i 0)]
def qgS(s:Str):Bool:=decide (1≤s.length)&&decide (s.drop (s.length-1)= [42])
def qrw(s:Str):Bool:=if qgS s=true then qac (s.take (s.length-1))&&decide (s.length≤16) else qac s
theorem qvd:((1:Nat):Int)=1:=rfl
theorem qsG(s:Str)(h:List AObj)(hs:s.length≤1000000000):ACalls Tryz.prog 271 [.str s,.str [42]] h (.bool (qgS s)) h:=by
 unfold qgS
 by_cases g:1≤s.length
 ·have k1:((1:Int)≤s.length)=True:=eqt om;have k2:((s.length:Int)-1).toNat=s.length-1:=by omega
  have k3:(0≤(s.length:Int)-1)=True:=eqt om;have k4:((s.length:Int)-1≤s.length)=True:=eqt om;have k5:List.take (s.length-(s.length-1)) (List.drop (s.length-1) s)=s.drop (s.length-1):=ltl (by simp);rw[dqt g];refine acO qsy ?_;simp (disch:=omega) only[qtz,qvd,k1,k2,k3,k4,k5,go_sem]
  repeat' first
   |(apply qd;exact rvk;simp only[go_sem];exact qi)
   |with_reducible apply aiA
  all_goals try exact clz
 ·have k1:((1:Int)≤s.length)=False:=eqf om;rw[dqf g];refine acO qsy ?_;simp (disch:=omega) only[qtz,qvd,k1,go_sem]
  repeat' first
   |(apply qd;exact rvk;simp only[go_sem];exact qi)
theorem qtX(s:Str)(h:List AObj)(hs:s.length≤1000000000):ACalls Tryz.prog 241 [.str s,.str [42]] h (.tup [.str (if qgS s=true then s.take (s.length-1) else s),.bool (qgS s)]) h:=by
 have c1:=fun h=>qsG s h hs
 cases g:qgS s with
 |true=>
  rw[g]at c1;have g1:1≤s.length:=by unfold qgS at g;simp at g;omega
  have k2:((s.length:Int)-1).toNat=s.length-1:=by omega
  have k3:(0≤(s.length:Int)-1)=True:=eqt om;have k4:((s.length:Int)-1≤s.length)=True:=eqt om;refine acO qsx ?_;simp (disch:=omega) only[qty,go_sem]
  repeat' first
   |(refine cA (c1 _) flk ?_;simp (disch:=omega) only[qvd,k2,k3,k4,Nat.sub_zero,go_sem])
   |(apply qd;exact rvk;simp only[go_sem];exact qi)
   |with_reducible apply aiA
  all_goals try exact clz
 |false=>
  rw[g]at c1;refine acO qsx ?_;simp (disch:=omega) only[qty,go_sem]
  repeat' first
   |(refine cA (c1 _) flk ?_;simp (disch:=omega) only[go_sem])
   |(apply qd;exact rvk;simp only[go_sem];exact qi)
theorem qyh(s:Str)(h:List AObj)(hs:s.length≤1000000000):ACalls Tryz.prog 205 [.str s,.str [42]] h (.tup [.str (if qgS s=true then s.take (s.length-1) else s),.bool (qgS s)]) h:=by
 have c1:=fun h=>qtX s h hs
 refine acO qy9 ?_;simp (disch:=omega) only[qxz,go_sem]
 repeat' first
  |(refine cA (c1 _) flk ?_;simp (disch:=omega) only[go_sem])
  |(apply qd;exact rvk;simp only[go_sem];exact qi)
  |with_reducible apply aiA
 all_goals try exact clz
theorem qrG(s:Str)(h:1≤s.length):qgS s=decide (((s[s.length-1]?).getD 0).toNat=42):=by
 unfold qgS;rw[dqt h,Bool.true_and];have e:s.drop (s.length-1)= [(s[s.length-1]?).getD 0]:=by
  rw[List.drop_eq_getElem_cons (show s.length-1<s.length by omega),zL (show s.length-1<s.length by omega),List.drop_eq_nil_of_le om];rfl
 rw[e];congr 1;simp only[List.cons.injEq,and_true,eq_iff_iff];exact⟨fun h=>by rw[h];rfl,fun h=>UInt8.toNat_inj.1 (by rw[h];rfl)⟩
def qbs(f:Nat→Int):Nat→Nat→Int
 |_,0=>0
 |i,k+1=>if f i≠0 then f i else qbs f (i+1) k
theorem qft{f:Nat→Int}{n i:Nat}(hi:i≤n)(h: ∀j,j<i→f j=0):qbs f 0 n=qbs f i (n-i):=by
 induction i with
 |zero=>rfl
 |succ i ih=>
  rw[ih om (fun j hj=>h j om),show n-i=(n-(i+1))+1 by omega];simp only[qbs,h i om,ne_eq,not_true_eq_false,if_false]
theorem qaU{f:Nat→Int}{n i:Nat}(hi:i<n)(h: ∀j,j<i→f j=0)(hp:f i≠0):qbs f 0 n=f i:=by
 rw[qft om h,show n-i=(n-i-1)+1 by omega];simp only[qbs];rw[ipo hp]
theorem jY{f:Nat→Int}{n:Nat}(h: ∀j,j<n→f j=0):qbs f 0 n=0:=by
 rw[qft (nlr n) h,Nat.sub_self];rfl
theorem jD{f:Nat→Int}{n:Nat}:qbs f 0 n=0↔ ∀j,j<n→f j=0:=by
 refine⟨fun h=> ?_,jY⟩;intro j
 induction j using Nat.strongRecOn with
 |_ j ih=>
  intro hj
  by_cases e:f j=0
  ·exact e
  ·rw[qaU hj (fun k hk=>ih k hk om) e]at h;exact absurd h e
def qvP(b:Int)(l:List Int)(i:Nat):Int:=if l.getD i 0<0∨b≤l.getD i 0 then 2 else if 0<i∧l.getD i 0≤l.getD (i-1) 0 then 10 else 0
def qB2(b:Int)(l:List Int):Int:=qbs (qvP b l) 0 l.length
structure Gr where
 name:Str
 mem:List Int
 deriving Inhabited
def grC(g:Gr):List AV:= [.str g.name,qI g.mem]
def qo0(gs:List Gr):AV:= .sl gs.length fun i=>grC (gs.getD i default)
def j8(names:List Str)(i:Nat):Int:=if qrw (names.getD i [])=false then 14 else if ju (fun j=>decide (names.getD i []=names.getD j [])) i=true then 7 else 0
def quB(names:List Str)(gs:List Gr)(i:Nat):Int:=
 if qac (gs.getD i default).name=false then 14 else if ju (fun j=>decide ((gs.getD i default).name=names.getD j [])) names.length=true then 7 else
  if ju (fun j=>decide ((gs.getD i default).name=(gs.getD j default).name)) i=true then 7 else if (gs.getD i default).mem.length=0 then 5 else qB2 names.length (gs.getD i default).mem
def sgE(names:List Str)(gs:List Gr):Int:=
 if 32<names.length then 4 else if qbs (j8 names) 0 names.length≠0 then qbs (j8 names) 0 names.length else if 16<gs.length then 4 else qbs (quB names gs) 0 gs.length
theorem quN(n:Nat)(g:Nat→Str)(x:Str)(h:List AObj)(hn:n≤1000000000):ACalls Tryz.prog 22 [.sl n (fun j=> [.str (g j)]),.str x] h (.int .i64 (qcM (fun j=>decide (x=g j)) n 0)) h:=by
 have:=qDh qCS n (fun j=> .s (g j)) (.s x) h (fun _ _=>rfl) om
 simpa only[At.v,At.s.injEq] using this
theorem qCD(n:Nat)(g:Nat→Str)(x:Str)(h:List AObj)(hn:n≤1000000000):ACalls Tryz.prog 160 [.sl n (fun j=> [.str (g j)]),.str x] h (.bool (ju (fun j=>decide (x=g j)) n)) h:=
 qyg qyR ⟨rfl,rfl⟩ ⟨rfl,rfl⟩ (quN n g x h hn)
end RC
end
section
namespace AF
open Go
theorem Wk.kill{t:List AV}{h:List AObj}{k v:Nat}{ty:TypeId}{cs:List AV}(hk:qr k h=some (.mem v ty cs)):Wk t h t (qn k h (.emp (v+1))):=by
 intro N w σ a H;have hkl:k<σ.length:=by rw[H.hr.len];exact zG hk
 have ho:=zL hkl;obtain⟨m1,_⟩:=H.hr.obj k _ _ hk ho;obtain⟨g1,g2⟩:=H.hr.kill ho;rw[m1]at g1 g2;exact⟨_,⟨g1,H.sz,fun i c x hc hx=>(H.tm i c x hc hx).ext g2,qbp g2 H.df⟩,g2⟩
end AF
end
section
open Go Go.Proofs AF HY LN
namespace RC
theorem qim{p q:Nat→Bool}{n:Nat}(h: ∀i,i<n→p i=q i):ju p n=ju q n:=by
 cases e:ju q n with
 |true=>obtain⟨i,h1,h2⟩:=qR.1 e;exact qR.2 ⟨i,h1,by rw[h i h1,h2]⟩
 |false=>exact qt.2 fun i hi=>by rw[h i hi];exact qt.1 e i hi
def qDp(l:List Int):Nat:=l.foldl (fun a n=>a|||2^n.toNat) 0
def inB(b:Int)(l:List Int):Prop:= ∀i,i<l.length→0≤l.getD i 0∧l.getD i 0<b
theorem qsJ(l:List Int): ∀a:Nat,a<2^64→(∀n∈l,0≤n∧n<64)→l.foldl (fun a n=>a|||2^n.toNat) a<2^64∧ ∀i,(l.foldl (fun a n=>a|||2^n.toNat) a).testBit i=(a.testBit i||decide ((i:Int)∈l)):=by
 induction l with
 |nil=>intro a ha _;exact⟨ha,fun i=>by simp⟩
 |cons n l ih=>
  intro a ha hl;have hn:=hl n (by simp);obtain⟨h1,h2⟩:=ih (a|||2^n.toNat) (Nat.or_lt_two_pow ha (Nat.pow_lt_pow_right om om)) (fun m hm=>hl m (by simp[hm]));refine⟨h1,fun i=> ?_⟩;rw[List.foldl_cons,h2 i,Nat.testBit_or,Nat.testBit_two_pow]
  by_cases e:(i:Int)=n
  ·have e':n.toNat=i:=by omega
   simp[e,e']
  ·have e': ¬n.toNat=i:=by omega
   simp[e,e']
theorem qcQ{l:List Int}{b:Int}(h:inB b l): ∀n∈l,0≤n∧n<b:=by
 intro n hn;obtain⟨i,hi,e⟩:=List.getElem_of_mem hn
 have:=h i hi
 rw[gdqA,zL hi]at this;rw[←e];exact this
theorem qAj{l:List Int}(h:inB 64 l):qDp l<2^64:=(qsJ l 0 (by decide) (qcQ h)).1
theorem quZ{l:List Int}(h:inB 64 l)(i:Nat):(qDp l).testBit i=decide ((i:Int)∈l):=by
 have:=(qsJ l 0 (by decide) (qcQ h)).2 i
 rw[Nat.zero_testBit,Bool.false_or]at this;exact this
def qmz(p:Nat→Bool)(k:Nat):List Int:=((List.range k).filter p).map Int.ofNat
def qU(L:List Int):List AV:=L.map fun n=> .int .i64 n
theorem jZ(L:List Int):(qU L).length=L.length:=by simp[qU]
theorem qmn(L M:List Int):qU (L++M)=qU L++qU M:=by simp[qU]
theorem qmp{L:List Int}:qU L= []↔L= []:=by simp[qU]
theorem qmq{L:List Int}{n:Nat}(g:AV→AV)(hg: ∀n,g (.int .i64 n)= .int .i64 n)(hn:n=L.length):VLe (.sl n fun i=>(((qU L).drop i).take 1).map g) (qI L):=by
 subst hn;refine VLe.sl_eq rfl (fun i hi=> ?_);unfold qU;rw[←List.map_drop,List.drop_eq_getElem_cons hi,List.map_cons,List.take_succ_cons,List.take_zero,List.map_cons,List.map_nil,hg,gdqA,zL hi];rfl
theorem qiK(L:List Int):(qI L).flag=true:=rfl
theorem qgU(L:List Int):(qI L).strip=qI L:=rfl
theorem ql8{fz:Nat→Bool}{h:List AObj}{n:Nat}(L:List Int):frz fz h (n+1) (qI L)=qI L:=rfl
theorem qns{fz:Nat→Bool}{h:List AObj}{n:Nat}(L:List Int):rei fz h (n+1) (qI L)=qI L:=rfl
theorem qlX(L:List Str):(strs L).flag=true:=rfl
theorem qjB(L:List Str):(strs L).strip=strs L:=rfl
theorem qql{fz:Nat→Bool}{h:List AObj}{n:Nat}(L:List Str):frz fz h (n+1) (strs L)=strs L:=rfl
theorem qrk{fz:Nat→Bool}{h:List AObj}{n:Nat}(L:List Str):rei fz h (n+1) (strs L)=strs L:=rfl
theorem qlU(L:List Gr):(qo0 L).flag=true:=rfl
theorem qjy(L:List Gr):(qo0 L).strip=qo0 L:=rfl
theorem qqj{fz:Nat→Bool}{h:List AObj}{n:Nat}(L:List Gr):frz fz h (n+1) (qo0 L)=qo0 L:=rfl
theorem qri{fz:Nat→Bool}{h:List AObj}{n:Nat}(L:List Gr):rei fz h (n+1) (qo0 L)=qo0 L:=rfl
attribute [go_sem] qiK qgU ql8 qns qlX qjB qql qrk qlU qjy qqj qri
def nIx(names:List Str)(s:Str):Int:=qcM (fun j=>decide (s=names.getD j [])) names.length 0
def gIx(gs:List Gr)(s:Str):Int:=qcM (fun j=>decide (s=(gs.getD j default).name)) gs.length 0
def qrv(names:List Str)(gs:List Gr)(sg:List Str)(i:Nat):Int:=
 if nIx names (sg.getD i [])<0∧gIx gs (sg.getD i [])<0 then 6 else if ju (fun j=>decide (sg.getD i []=sg.getD j [])) i=true then 7 else 0
def els(names:List Str)(gs:List Gr)(s:Str):List Int:=if 0≤nIx names s then [nIx names s] else (gs.getD (gIx gs s).toNat default).mem
def qsd(names:List Str)(gs:List Gr)(sg:List Str):Nat→Nat
 |0=>0
 |i+1=>qsd names gs sg i|||qDp (els names gs (sg.getD i []))
def qiG(names:List Str)(gs:List Gr)(sg:List Str):Int:=if sgE names gs≠0 then 1 else qbs (qrv names gs sg) 0 sg.length
def qdr(names:List Str)(gs:List Gr)(sg:List Str):List Int:=if qiG names gs sg=0 then qmz (qsd names gs sg sg.length).testBit 64 else []
theorem qvQ{b:Int}{l:List Int}(h:qB2 b l=0):inB b l∧ ∀i,0<i→i<l.length→l.getD (i-1) 0<l.getD i 0:=by
 unfold qB2 at h;rw[jD]at h;refine⟨fun i hi=> ?_,fun i h0 hi=> ?_⟩
 ·have:=h i hi
  unfold qvP at this;split at this
  ·cases this
  ·rename_i hc;omega
 ·have:=h i hi
  unfold qvP at this;split at this
  ·cases this
  ·split at this
   ·cases this
   ·rename_i hc;omega
structure qBW (names:List Str) (gs:List Gr):Prop where
 n32:names.length≤32
 g16:gs.length≤16
 na: ∀i,i<names.length→j8 names i=0
 gr: ∀i,i<gs.length→quB names gs i=0
theorem qsV{names:List Str}{gs:List Gr}(h:sgE names gs=0):qBW names gs:=by
 unfold sgE at h;split at h
 ·cases h
 split at h
 ·rename_i h1;exact absurd h h1
 split at h
 ·cases h
 rename_i h1 h2 h3;exact⟨om,om,jD.1 (by simpa using h2),jD.1 h⟩
theorem quC{names:List Str}{gs:List Gr}(h:qBW names gs){i:Nat}(hi:i<gs.length):qB2 names.length (gs.getD i default).mem=0:=by
 have:=h.gr i hi
 unfold quB at this
 repeat' split at this
 all_goals first|(cases this;done)|exact this
theorem qmD(names:List Str)(s:Str):(∃k:Nat,k<names.length∧names.getD k []=s∧nIx names s=k)∨((∀j,j<names.length→s≠names.getD j [])∧nIx names s= -1):=by
 rcases jb (fun j=>decide (s=names.getD j [])) names.length with⟨i,h1,h2,_,h4⟩|⟨h1,h2⟩
 ·exact .inl ⟨i,h1,(of_decide_eq_true h2).symm,h4⟩
 ·exact .inr ⟨fun j hj=>of_decide_eq_false (h1 j hj),h2⟩
theorem qmb(gs:List Gr)(s:Str):(∃k:Nat,k<gs.length∧(gs.getD k default).name=s∧gIx gs s=k)∨((∀j,j<gs.length→s≠(gs.getD j default).name)∧gIx gs s= -1):=by
 rcases jb (fun j=>decide (s=(gs.getD j default).name)) gs.length with⟨i,h1,h2,_,h4⟩|⟨h1,h2⟩
 ·exact .inl ⟨i,h1,(of_decide_eq_true h2).symm,h4⟩
 ·exact .inr ⟨fun j hj=>of_decide_eq_false (h1 j hj),h2⟩
theorem qlH{names:List Str}{gs:List Gr}{s:Str}(h:qBW names gs)(hf: ¬(nIx names s<0∧gIx gs s<0)):inB names.length (els names gs s):=by
 unfold els;rcases qmD names s with⟨k,h1,_,h3⟩|⟨_,h3⟩
 ·rw[h3,ipo om];intro i hi
  have:i=0:=by simpa using hi
  subst this;simp only[List.getD_cons_zero];omega
 ·rw[h3,ine om];rcases qmb gs s with⟨k,g1,_,g3⟩|⟨_,g3⟩
  ·rw[g3,itn];exact (qvQ (quC h g1)).1
  ·exact absurd ⟨om,om⟩ hf
theorem qhB{b c:Int}{l:List Int}(h:inB b l)(hbc:b≤c):inB c l:=fun i hi=>⟨(h i hi).1,by have:=(h i hi).2;omega⟩
theorem qtb{names:List Str}{gs:List Gr}{sg:List Str}(h:qBW names gs): ∀ {i:Nat},(∀j,j<i→qrv names gs sg j=0)→qsd names gs sg i<2^64∧ ∀k,(qsd names gs sg i).testBit k=decide (∃j,j<i∧(k:Int)∈els names gs (sg.getD j [])):=by
 intro i
 induction i with
 |zero=>intro _;exact⟨Nat.two_pow_pos 64,fun k=>by simp[qsd]⟩
 |succ i ih=>
  intro hz;obtain⟨h1,h2⟩:=ih (fun j hj=>hz j om);have h3: ¬(nIx names (sg.getD i [])<0∧gIx gs (sg.getD i [])<0):=by
   intro hc
   have:=hz i om
   unfold qrv at this;rw[ipo hc]at this;cases this
  have h4:inB 64 (els names gs (sg.getD i [])):=qhB (qlH h h3) (by have:=h.n32;omega);refine⟨Nat.or_lt_two_pow h1 (qAj h4),fun k=> ?_⟩;unfold qsd;rw[Nat.testBit_or,h2 k,quZ h4 k,←Bool.decide_or];refine decide_eq_decide.2 ⟨?_,?_⟩
  ·rintro (⟨j,hj,hm⟩|hm)
   ·exact⟨j,om,hm⟩
   ·exact⟨i,om,hm⟩
  ·rintro⟨j,hj,hm⟩
   by_cases e:j=i
   ·subst e;exact .inr hm
   ·exact .inl ⟨j,om,hm⟩
end RC
end
section
namespace AF
open Go Go.RowKit
theorem Ext.ofBelow{w w':World}{σ:List OB}{h:List AObj}(H:HR w σ h)(hb:Below w.heap.size w w'):HR w' σ h∧Ext w σ w' σ:=by
 have e:Ext w σ w' σ:=⟨hb.os,hb.tape,hb.output,hb.size,fun b hl _=>hb.block b hl,fun _ h=> .inl h,fun _ o h=>⟨o,h,nlr _,fun _=>rfl⟩,
  fun b r h=>⟨r,(hb.block b (Array.getElem?_eq_some_iff.1 h).1).trans h⟩⟩
 exact⟨⟨H.len,H.inj,fun k o b h1 h2=>Nat.lt_of_lt_of_le (H.lt k o b h1 h2) hb.size,fun k a o h1 h2=>(H.obj k a o h1 h2).ext e (fun b h3=>hb.block b (H.lt k o b h2 h3))⟩,e⟩
end AF
end
section
namespace AF
open Go Go.ChangeShapes Go.WideShapes Go.ChangeAt Go.RowKit
def qng:OB:=⟨none,0,0,0⟩
theorem qgB(b:Nat): ¬own [qng] b:=by
 rintro⟨k,o,h,h2⟩;cases k with
 |zero=>simp at h;subst h;cases h2
 |succ k=>simp at h
theorem qAc{w:World}{bs:List Nat}{G:World→Prop}(hb: ∀b,b∈bs→ ∃arr T fz,w.heap[b]? =some (.cells arr T fz))(hG: ∀w':World,(∀b,b∈bs→w'.heap[b]? =w.heap[b]?)→G w'):
  HR w [qng] [.pin bs G]:=by
 refine⟨rfl,?_,?_,?_⟩
 ·intro i j oi oj b hi hj bi;cases i with
  |zero=>simp at hi;subst hi;cases bi
  |succ i=>simp at hi
 ·intro k o b hk hb';cases k with
  |zero=>simp at hk;subst hk;cases hb'
  |succ k=>simp at hk
 ·intro k a o ha ho;cases k with
  |zero=>
   simp at ha ho;subst ha;subst ho;exact⟨rfl,rfl,fun b h=>⟨qgB b,hb b h⟩,hG⟩
  |succ k=>simp at ha
theorem qug(w:World):Ext w [] w [qng]:=
 ⟨rfl,rfl,rfl,nlr _,fun _ _ _=>rfl,fun b h=>absurd h (qgB b),fun k o h=>by simp at h,fun _ r h=>⟨r,h⟩⟩
theorem qka{w w':World}{σ':List OB}(h:Ext w [qng] w' σ'):Below w.heap.size w w':=⟨h.os,h.tape,h.output,h.size,fun k hk=>h.keep k hk (qgB k)⟩
theorem VRs.ext{w w':World}{σ σ':List OB}(h:Ext w σ w' σ'){avs:List AV}{xs:List Value}(hv:VRs w σ avs xs):VRs w' σ' avs xs:=⟨hv.1,fun i c x hc hx=>(hv.2 i c x hc hx).ext h⟩
theorem qAt{w:World}{σ:List OB}{h:List AObj}{k:Nat}{bs:List Nat}{G:World→Prop}(H:HR w σ h)(hk:h[k]? =some (.pin bs G)):G w:=by
 have hl:k<σ.length:=by rw[H.len];exact (lgs.1 hk).1
 obtain⟨_,_,_,h4⟩:=H.obj k _ σ[k] hk (zL hl);exact h4 w (fun _ _=>rfl)
theorem qfD{H:Type}{enc:TypeId×Value→H}{P:Program}{W:World}{f:Func}{fid:FuncId}{s:ChangeSpec}{args:Array Value}{ds gs:List (DataW H)}{before:List MemPlace}{tb:TypeId}{bs:List Nat}{G:World→Prop}
  (hl:laidOutB P=true) (hv:s.vars= []) (hfn: ∀ds',ds'.length=f.params.size→s.fn H ds'= { results:= [.lit (.bool true)],args:=ds' })
  (hrt:f.resultTypes= #[tb]) (htb:P.underlying tb=some .bool) (hro: ∀t∈f.params.toList,P.readableRec t=true∧t<P.types.size)
  (hW:DataW.Whole enc P f.params.toList s.vars false W args.toList ds gs before)
  (hb: ∀b,b∈bs→ ∃arr T fz,W.heap[b]? =some (.cells arr T fz)) (hG: ∀w':World,(∀b,b∈bs→w'.heap[b]? =W.heap[b]?)→G w')
  (hc: ∀p,DataW.TrodAll enc P W 0 (fun _=>true) true f.params.toList args.toList ds p→ds.length=f.params.size∧ ∃avs:List AV,VRs W [] avs args.toList∧ACalls P fid avs [.pin bs G] (.bool true) [.pin bs G]):
  Calls P fid args W fun e W'=> ∃v,e= .returned v∧s.post enc P f false true false false W args v W':=by
 have hW':=hW;obtain⟨p,q,hA,hV,rfl,hz,_⟩:=hW;rw[hv]at hV;obtain⟨rfl,rfl⟩:=trodVars_none hV;obtain⟨hlen,avs,h1,h2⟩:=hc p hA;rw[lan]at hW';have h3:=h2.2 W [qng] args.toList (qAc hb hG) (h1.ext (qug W));rw[Array.toArray_toList]at h3;refine (callsIn_wide.1 h3).mono ?_;rintro e W' ⟨v,σ',rfl,g1,g2,g3⟩;obtain rfl:=jx g2;exact⟨_,rfl,qqz hl hv (hfn ds hlen) hrt htb hro hW' hA (qka g3)⟩
theorem qeV{P:Program}{w w':World}{name:String}{g:Nat}(hg:P.globalNamed name=some g)(h:w'.heap[g]? =w.heap[g]?):w'.var? P name=w.var? P name:=by
 unfold World.var?;rw[hg];simp only[Option.bind_some];rw[h]
theorem qdq{P:Program}{w:World}{name:String}{g:Nat}{cs:Array Value}(hg:P.globalNamed name=some g)(h:w.var? P name=some cs): ∃arr T fz,w.heap[g]? =some (.cells arr T fz):=by
 unfold World.var? at h;rw[hg]at h;simp only[Option.bind_some]at h;split at h
 ·rename_i cs T fz hc;exact⟨_,_,_,hc⟩
 ·cases h
end AF
end
section
open Go Go.Proofs AF HY
namespace LN
def qs3 (w : World) : Prop := Lib.TabIs Tryz.prog w "internal/strconv.uint64pow10" .u64 Lib.pow10Tab
def qBU (w : World) : Prop := (∃ tp p, w.var? Tryz.prog "strconv.ErrSyntax" = some #[.iface tp p]) ∧ ∃ tp p, w.var? Tryz.prog "strconv.ErrRange" = some #[.iface tp p]
def kQ(Q:World→Prop)(h:List AObj):Prop:= ∃(k:Nat) (bs:List Nat) (G:World→Prop),h[k]? =some (.pin bs G)∧ ∀w,G w→Q w
theorem kQ.app{Q:World→Prop}{h:List AObj}(hp:kQ Q h)(l:List AObj):kQ Q (h++l):=by
 obtain⟨k,bs,G,h1,h2⟩:=hp;exact⟨k,bs,G,by rw[List.getElem?_append_left (lgs.1 h1).1];exact h1,h2⟩
theorem kQ.mono{Q Q':World→Prop}{h:List AObj}(hp:kQ Q h)(hq: ∀w,Q w→Q' w):kQ Q' h:=by
 obtain⟨k,bs,G,h1,h2⟩:=hp;exact⟨k,bs,G,h1,fun w hw=>hq w (h2 w hw)⟩
theorem kQ.of{Q:World→Prop}{h:List AObj}{w:World}{σ:List OB}(hp:kQ Q h)(H:HR w σ h):Q w:=by
 obtain⟨k,bs,G,h1,h2⟩:=hp;exact h2 w (qAt H h1)
theorem t48(n:Int)(h:List AObj)(hp:kQ qs3 h)(h0: -9223372036854775808≤n)(h1:n≤9223372036854775807):ACalls Tryz.prog 152 [.int .i64 n] h (.str (Lib.itoa n)) h:=by
 refine⟨qu7 Tryz.func152 (by kernel_rfl) (by kernel_rfl),fun w σ xs H hv=> ?_⟩;obtain⟨x,rfl,hx⟩:=hv.one;rw[zD hx];refine (callsIn_wide.2 (Any.strconv_Itoa Tryz.laysM171 n h0 h1 w (hp.of H))).mono ?_;rintro e w' ⟨rfl,k,os,rfl⟩;obtain⟨g1,g2⟩:=Ext.ofBelow H (Lib.below_grow w.heap.size w (nlr _) k os);exact⟨_,σ,rfl,g1,.imm .str,g2⟩
def qwV(s:List UInt8):Int:=
 match Lib.atoiAll s with
 | .ok _=>0
 | .range=>Lib.atoiSat s
 |_=>0
def qte(s:List UInt8):AV:=
 match Lib.atoiAll s with
 | .ok v=> .tup [.int .i64 v,.nilif]
 |_=> .tup [.int .i64 (qwV s),.ifc]
theorem t50(s:List UInt8)(h:List AObj)(hp:kQ qBU h)(hl:s.length≤281474976710656):ACalls Tryz.prog 242 [.str s] h (qte s) h:=by
 refine⟨qu7 Tryz.func242 (by kernel_rfl) (by kernel_rfl),fun w σ xs H hv=> ?_⟩;obtain⟨x,rfl,hx⟩:=hv.one;rw[jO hx];have hsz:(⟨s.toArray⟩:ByteArray).size≤281474976710656:=by simpa[ByteArray.size] using hl
 obtain⟨⟨t1,p1,e1⟩,t2,p2,e2⟩:=hp.of H;unfold qte qwV;have hd:(⟨s.toArray⟩:ByteArray).data.toList=s:=rfl;cases hs:Lib.atoiAll s
 ·rename_i v;refine (callsIn_wide.2 (Any.strconv_Atoi_ok Tryz.laysC172 ⟨s.toArray⟩ om v (by rw[hd];exact hs) w)).mono ?_;rintro e w' ⟨rfl,hw⟩;have hb:Go.RowKit.Below w.heap.size w w':=by
   rcases hw with rfl|⟨t,rfl⟩
   ·exact Go.RowKit.Below.refl _ _
   ·exact Lib.bytesWorld_below _ _ _
  obtain⟨g1,g2⟩:=Ext.ofBelow H hb;refine⟨_,σ,rfl,g1,.imm (.tup rfl (fun i c y hc hy=> ?_)),g2⟩
  match i with
  |0=>simp at hc hy;subst hc hy;exact .int
  |1=>simp at hc hy;subst hc hy;exact .nilif
  |i+2=>simp at hc
 ·refine (callsIn_wide.2 (Any.strconv_Atoi_syntax_var Tryz.laysC172 ⟨s.toArray⟩ hsz (by rw[hd];exact hs) t1 p1 w e1)).mono ?_;rintro e w' ⟨N,rfl,_,_,hb⟩;obtain⟨g1,g2⟩:=Ext.ofBelow H hb;refine⟨_,σ,rfl,g1,.imm (.tup rfl (fun i c y hc hy=> ?_)),g2⟩
  match i with
  |0=>simp at hc hy;subst hc hy;exact .int
  |1=>simp at hc hy;subst hc hy;exact .ifc
  |i+2=>simp at hc
 ·refine (callsIn_wide.2 (Any.strconv_Atoi_range_var Tryz.laysC172 ⟨s.toArray⟩ hsz (by rw[hd];exact hs) t2 p2 w e2)).mono ?_;rintro e w' ⟨N,rfl,_,_,hb⟩;obtain⟨g1,g2⟩:=Ext.ofBelow H hb;refine⟨_,σ,rfl,g1,.imm (.tup rfl (fun i c y hc hy=> ?_)),g2⟩
  match i with
  |0=>simp at hc hy;subst hc hy;exact .int
  |1=>simp at hc hy;subst hc hy;exact .ifc
  |i+2=>simp at hc
theorem qm0: ∀(l r:List UInt8) (acc:Nat),Lib.parseUint10 acc (l++r)=match Lib.parseUint10 acc l with
  | .ok v=>Lib.parseUint10 v r
  |e=>e:=by
 intro l
 induction l with
 |nil=>intro r acc;rfl
 |cons c l ih=>
  intro r acc;rw[lca,Lib.parseUint10,Lib.parseUint10]
  by_cases h1:48≤c.toNat∧c.toNat≤57
  ·rw[ipo h1,ipo h1]
   by_cases h2:1844674407370955162≤acc
   ·rw[ipo h2,ipo h2]
   ·rw[ine h2,ine h2]
    by_cases h3:18446744073709551616≤acc*10+(c.toNat-48)
    ·rw[ipo h3,ipo h3]
    ·rw[ine h3,ine h3];exact ih r _
  ·rw[ine h1,ine h1]
theorem qek{d:Nat}(h:d<10):(UInt8.ofNat (48+d)).toNat=48+d:=by
 rw[UInt8.toNat_ofNat'];omega
theorem qm1: ∀u,u<1000000000→Lib.parseUint10 0 (Lib.decDigits u)= .ok u:=by
 intro u
 induction u using Nat.strongRecOn with
 |_ u ih=>
  intro hu
  by_cases h:u<10
  ·rw[Lib.decDigits,dif_pos h,Lib.parseUint10,qek h,ipo om,ine om,ine om,Lib.parseUint10];congr 1;omega
  ·rw[Lib.decDigits,dif_neg h,qm0,ih (u/10) om om];simp only;rw[Lib.parseUint10,qek om,ipo om,ine om,ine om,Lib.parseUint10];congr 1;omega
theorem qiC: ∀u,∀c∈Lib.decDigits u,48≤c.toNat∧c.toNat≤57:=by
 intro u
 induction u using Nat.strongRecOn with
 |_ u ih=>
  intro c hc
  by_cases h:u<10
  ·rw[Lib.decDigits,dif_pos h,List.mem_singleton]at hc;subst hc;rw[qek h];omega
  ·rw[Lib.decDigits,dif_neg h]at hc;rcases List.mem_append.1 hc with hc|hc
   ·exact ih (u/10) om c hc
   ·rw[List.mem_singleton]at hc;subst hc;rw[qek om];omega
theorem qyl(u:Nat):Lib.decDigits u≠ []:=by
 intro h
 have:=Lib.decDigits_length u
 have:=Lib.nDigits_pos u
 rw[h]at*;simp at*;omega
theorem qj8{n:Int}(h0:0≤n)(h1:n<1000000000):Lib.atoiAll (Lib.itoa n)= .ok n:=by
 obtain⟨u,rfl⟩: ∃u:Nat,n=u:=⟨n.toNat,om⟩
 rw[Lib.itoa_nonneg];have hd:=qiC u;have hp:=qm1 u om;have hne:=qyl u;cases hl:Lib.decDigits u with
 |nil=>exact absurd hl hne
 |cons c r=>
  rw[hl]at hd hp;have hc:=hd c (List.mem_cons_self ..);unfold Lib.atoiAll;simp only;rw[ine (show¬(c.toNat=43∨c.toNat=45) by omega)];unfold Lib.parseMag;rw[ine (by simp),hp];simp only;rw[ine om,ine om,ine om]
end LN
end
section
open Go Go.Proofs AF HY LN
namespace RC
theorem qpc{s:Str}{v:Int}(h:Lib.atoiAll s= .ok v): -9223372036854775808≤v∧v≤9223372036854775807:=by
 unfold Lib.atoiAll at h;split at h
 ·cases h
 ·simp only at h;split at h
  ·cases h
  ·cases h
  ·split at h
   ·cases h
   ·split at h
    ·cases h
    ·rename_i h1 h2;cases h;split
     ·rename_i h3;have:=mt (And.intro h3) h2;omega
     ·rename_i h3;have:=mt (And.intro h3) h1;omega
theorem qgx{k:Nat}(h:k≤64):(Lib.itoa (k:Int)).length≤9:=by
 rw[Lib.itoa_nonneg]
 by_cases g:k<10
 ·rw[Lib.decDigits,dif_pos g];simp
 ·rw[Lib.decDigits,dif_neg g,Lib.decDigits,dif_pos (show k/10<10 by omega)];simp
def SG(w:World):Prop:=qs3 w∧qBU w
theorem SG.pow{h:List AObj}(hp:kQ SG h):kQ qs3 h:=hp.mono fun _ h=>h.1
theorem SG.err{h:List AObj}(hp:kQ SG h):kQ qBU h:=hp.mono fun _ h=>h.2
def pre(s:Str):Bool:=decide (1≤s.length)&&decide (s.take 1= [91])
def qfu(s:Str):Bool:=(List.range 64).any fun k=>decide (s=91::(Lib.itoa ((k+1:Nat):Int)++ [93]))
def qEd(s:Str):Bool:=kE s||(if s.length=1 then decide (kind (ch s 0)=5)||decide (kind (ch s 0)=4) else qfu s)
def wE(s:Str):Int:=if qEd s=true then 0 else 11
def qoW(L:List Str):Int:=qbs (fun i=>wE (L.getD i [])) 0 L.length
theorem qEA(a b c:Str)(n f g:Int)(d:Str)(h:List AObj)(hf:0≤f)(hf2:f≤31)(hg:0<g):ACalls Tryz.prog 181 [.agg [.str a,.str b,.str c,.int .i64 n,.int .i64 f,.str d],.int .i64 g] h (.bool (decide (f/g%2=1))) h:=by
 have k1:(g=0)=False:=eqf om;have k2:0≤f/g:=Int.ediv_nonneg hf om;have k3:f/g≤f:=Int.ediv_le_self _ hf;refine acO qy5 ?_;simp (disch:=omega) only[qxv,go_sem]
 repeat' first
  |(apply qb;exact rvk;simp only[go_sem];exact qi)
  |with_reducible apply aiA
 all_goals try exact clz
theorem qFd(s:Str)(h:List AObj)(hs:s.length≤1000000000)(hp:kQ SG h):ACalls Tryz.prog 182 [.str s] h (.bool (qfu s)) h:=by
 refine acO qy6 ?_;simp (disch:=omega) only[qxw,go_sem];refine qu (T:=fun i:Nat=>ze 14 [(0,.str s),(3,.int .i64 ((i+1:Nat):Int))]) (H:=fun _=>h) (inv:=fun i=>i≤64∧ ∀j,j<i→s≠91::(Lib.itoa ((j+1:Nat):Int)++ [93])) (m:=fun i=>64-i) 0 ⟨nzl _,fun j hj=>absurd hj (nnz j)⟩ (Wk.temps ?_) ?_
 ·(simp only[go_sem,qg,qc,qa,qf];try (repeat' first|(with_reducible apply aiA)|(apply qh;omega)|(apply qe;rfl)|exact qi))
 rintro i ⟨i1,i2⟩ K hK;have ec:((i+1:Nat):Int)=(i:Int)+1:=by omega
 by_cases hi:i<64
 ·have k1:((i:Int)+1≤64)=True:=eqt om;have c181:=t48 ((i:Int)+1) h (SG.pow hp) om om;have hl:(Lib.itoa ((i:Int)+1)).length≤9:=by rw[←ec];exact qgx om
  obtain⟨t,ht⟩: ∃t,t=Lib.itoa ((i:Int)+1):=⟨_,rfl⟩
  rw[←ht]at c181 hl
  by_cases g:s=91::(t++ [93])
  ·have q1:(s=91::(t++ [93]))=True:=eqt g;have hV:qfu s=true:=by
    unfold qfu;rw[List.any_eq_true];exact⟨i,by simpa using hi,dqt (by rw[ec,←ht];exact g)⟩
   rw[hV];simp (disch:=omega) only[ec,k1,go_sem]
   repeat' first
    |(refine cA (c181) flk ?_;simp (disch:=omega) only[q1,go_sem])
    |(apply qd;exact rvk;simp only[go_sem];exact qi)
    |with_reducible apply aiA
   all_goals try exact clz
  ·have q1:(s=91::(t++ [93]))=False:=eqf g;simp (disch:=omega) only[ec,k1,go_sem]
   repeat' first
    |(refine cA (c181) flk ?_;simp (disch:=omega) only[q1,go_sem])
    |with_reducible apply aiA
   all_goals try exact clz
   refine hK _ _ (i+1) ⟨hi,fun j hj=> ?_⟩ om (Wk.temps ?_)
   ·by_cases e':j=i
    ·subst e';rw[ec,←ht];exact g
    ·exact i2 j om
   ·(simp only[go_sem,qg,qc,qa,qf];try (repeat' first|(with_reducible apply aiA)|(apply qh;omega)|(apply qe;rfl)|exact qi))
 ·have k1:((i:Int)+1≤64)=False:=eqf om;have hV:qfu s=false:=by
   cases e:qfu s with
   |false=>rfl
   |true=>
    unfold qfu at e;rw[List.any_eq_true]at e;obtain⟨j,hj,e⟩:=e;exact absurd (of_decide_eq_true e) (i2 j (by have:j<64:=(by simpa using hj);omega))
  rw[hV];simp (disch:=omega) only[ec,k1,go_sem]
  repeat' first
   |(apply qd;exact rvk;simp only[go_sem];exact qi)
def qsh(C L:List Int):List Int:=L.foldl (fun C n=>C.set n.toNat (C.getD n.toNat 0+1)) C
theorem qpn(L:List Int): ∀C:List Int,(qsh C L).length=C.length:=by
 induction L with
 |nil=>intro C;rfl
 |cons n L ih=>intro C;show (qsh (C.set _ _) L).length=_;rw[ih];simp
theorem qmo{C:List Int}{n:Nat}(h:n<C.length):(qU C)[n]? =some (.int .i64 (C.getD n 0)):=by
 unfold qU;rw[List.getElem?_map,zL h,gdqA,zL h];rfl
theorem qpX{names:List Str}{gs:List Gr}{sg:List Str}:inB names.length (qdr names gs sg)∧ ∀i,0<i→i<(qdr names gs sg).length→(qdr names gs sg).getD (i-1) 0<(qdr names gs sg).getD i 0:=by
 unfold qdr;split
 ·rename_i h;have h':=h;unfold qiG at h';split at h'
  ·cases h'
  rename_i h1;have hok:=qsV (by simpa using h1);have hz:=jD.1 h';obtain⟨m1,m2⟩:=qtb hok hz;have hsort:(qmz (qsd names gs sg sg.length).testBit 64).Pairwise (· < ·):=by
   unfold qmz;rw[List.pairwise_map];exact (List.pairwise_lt_range.filter _).imp (fun h=>Int.ofNat_lt.2 h)
  have hmem: ∀n∈qmz (qsd names gs sg sg.length).testBit 64,0≤n∧n<names.length:=by
   intro n hn;unfold qmz at hn;obtain⟨k,hk,rfl⟩:=List.mem_map.1 hn;have hk2:=(List.mem_filter.1 hk).2;rw[m2 k]at hk2;obtain⟨j,hj,hm⟩:=of_decide_eq_true hk2;have hf: ¬(nIx names (sg.getD j [])<0∧gIx gs (sg.getD j [])<0):=by
    intro hc
    have:=hz j hj
    unfold qrv at this;rw[ipo hc]at this;cases this
   exact qcQ (qlH hok hf) _ hm
  refine⟨fun i hi=> ?_,fun i h0 hi=> ?_⟩
  ·rw[gdqA,zL hi];exact hmem _ (List.getElem_mem hi)
  ·rw[gdqA,gdqA,zL hi,zL (show i-1<_ by omega)];exact List.pairwise_iff_getElem.1 hsort (i-1) i om hi om
 ·exact⟨fun i hi=>absurd hi (nnz i),fun i _ hi=>absurd hi (nnz i)⟩
theorem qpY{names:List Str}{gs:List Gr}{sg:List Str}:inB 32 (qdr names gs sg):=by
 by_cases h:qiG names gs sg=0
 ·have h':=h;unfold qiG at h';split at h'
  ·cases h'
  rename_i h1;have hok:=qsV (by simpa using h1);exact qhB qpX.1 (by have:=hok.n32;omega)
 ·have:qdr names gs sg= []:=by unfold qdr;rw[ine h]
  rw[this];exact fun i hi=>absurd hi (nnz i)
structure Tk where
 text:Str
 norm:Str
 page:Str
 line:Int
 flags:Int
 name:Str
 deriving Inhabited, DecidableEq
def tkC(t:Tk):List AV:= [.str t.text,.str t.norm,.str t.page,.int .i64 t.line,.int .i64 t.flags,.str t.name]
def zT(l:List Tk):AV:= .sl l.length fun i=>tkC (l.getD i default)
def qm(L:List (List Tk)):AV:= .sl L.length fun i=> [zT (L.getD i [])]
def qw(L:List (List Int)):AV:= .sl L.length fun i=> [qI (L.getD i [])]
structure Co where
 sec:Str
 sig:List Str
 tok:List (List Tk)
 col:List (List Int)
 deriving Inhabited
def coC(x:Co):List AV:= [.str x.sec,strs x.sig,qm x.tok,qw x.col]
structure Rd where
 words:List Str
 src:List Int
 deriving Inhabited, DecidableEq
def rdC(r:Rd):List AV:= [strs r.words,qI r.src]
def jV(l:List Rd):AV:= .sl l.length fun i=>rdC (l.getD i default)
structure Un where
 frm:Int
 to:Int
 rds:List Rd
 deriving Inhabited, DecidableEq
def unC(u:Un):List AV:= [.int .i64 u.frm,.int .i64 u.to,jV u.rds]
def zS(l:List Un):AV:= .sl l.length fun i=>unC (l.getD i default)
structure Wd where
 text:Str
 col:Int
 unit:Int
 dec:Int
 joined:Bool
 verse:Bool
 name:Str
 deriving Inhabited, DecidableEq
def wdC(w:Wd):List AV:= [.str w.text,.int .i64 w.col,.int .i64 w.unit,.int .i64 w.dec,.bool w.joined,.bool w.verse,.str w.name]
def kX(l:List Wd):AV:= .sl l.length fun i=>wdC (l.getD i default)
theorem flag_tksV(L:List Tk):(zT L).flag=true:=rfl
theorem strip_tksV(L:List Tk):(zT L).strip=zT L:=rfl
theorem flag_tkssV(L:List (List Tk)):(qm L).flag=true:=rfl
theorem strip_tkssV(L:List (List Tk)):(qm L).strip=qm L:=rfl
theorem flag_colsV(L:List (List Int)):(qw L).flag=true:=rfl
theorem strip_colsV(L:List (List Int)):(qw L).strip=qw L:=rfl
theorem flag_rdsV(L:List Rd):(jV L).flag=true:=rfl
theorem strip_rdsV(L:List Rd):(jV L).strip=jV L:=rfl
theorem flag_unsV(L:List Un):(zS L).flag=true:=rfl
theorem strip_unsV(L:List Un):(zS L).strip=zS L:=rfl
theorem flag_wdsV(L:List Wd):(kX L).flag=true:=rfl
theorem strip_wdsV(L:List Wd):(kX L).strip=kX L:=rfl
section
variable {fz : Nat → Bool} {h : List AObj} {n : Nat}
theorem rei_tksV(L:List Tk):rei fz h (n+1) (zT L)=zT L:=rfl
theorem rei_tkssV(L:List (List Tk)):rei fz h (n+1) (qm L)=qm L:=rfl
theorem rei_colsV(L:List (List Int)):rei fz h (n+1) (qw L)=qw L:=rfl
theorem rei_rdsV(L:List Rd):rei fz h (n+1) (jV L)=jV L:=rfl
theorem rei_unsV(L:List Un):rei fz h (n+1) (zS L)=zS L:=rfl
theorem rei_wdsV(L:List Wd):rei fz h (n+1) (kX L)=kX L:=rfl
theorem frz_tksV(L:List Tk):frz fz h (n+1) (zT L)=zT L:=rfl
theorem frz_tkssV(L:List (List Tk)):frz fz h (n+1) (qm L)=qm L:=rfl
theorem frz_colsV(L:List (List Int)):frz fz h (n+1) (qw L)=qw L:=rfl
theorem frz_rdsV(L:List Rd):frz fz h (n+1) (jV L)=jV L:=rfl
theorem frz_unsV(L:List Un):frz fz h (n+1) (zS L)=zS L:=rfl
theorem frz_wdsV(L:List Wd):frz fz h (n+1) (kX L)=kX L:=rfl
end
attribute [go_sem] flag_tksV strip_tksV flag_tkssV strip_tkssV flag_colsV strip_colsV flag_rdsV strip_rdsV flag_unsV strip_unsV flag_wdsV strip_wdsV rei_tksV rei_tkssV rei_colsV rei_rdsV rei_unsV rei_wdsV frz_tksV frz_tkssV frz_colsV frz_rdsV frz_unsV frz_wdsV
def qiS(f:Int):Bool:=f.toNat.testBit 1
def mkB(f:Int):Bool:=f.toNat.testBit 3
def qmE(s:Str):Bool:=decide (s= [])||qac s
def qwz(s:Str):Bool:=decide (s.length=1)&&(decide (kind (ch s 0)=5)||decide (kind (ch s 0)=4))
def qaV(c:UInt8):Bool:=decide (kind c=1)||(decide (kind c=3)||(decide (kind c=2)||decide (kind c=4)))
def qwB(s:Str):Bool:=decide (s≠ [])&&(decide (s.length≤64)&&(List.range s.length).all fun i=>qaV (ch s i))
def txB(t:Tk):Bool:=if qiS t.flags=true then qfu t.text&&decide (t.norm=t.text) else if mkB t.flags=true then qwz t.text&&decide (t.norm=t.text) else kE t.text&&qwB t.norm
def tkE(t:Tk):Int:=
 if t.flags<0∨31<t.flags then 2 else if qiS t.flags=true∧mkB t.flags=true then 8 else if txB t=false then 11 else if t.line<0 then 2 else if qmE t.page=false∨qmE t.name=false then 14 else 0
def qeO(l:List Tk):Int:=if 1024<l.length then 4 else if ju (fun j=>decide (tkE (l.getD j default)≠0)) l.length=true then 1 else 0
def srE(x:Co):Int:=
 if qac x.sec=false then 14 else if x.sig.length=0 then 5 else if 32<x.sig.length then 4 else if qbs (j8 x.sig) 0 x.sig.length≠0 then qbs (j8 x.sig) 0 x.sig.length else
  if x.tok.length≠x.sig.length then 9 else qbs (fun i=>qeO (x.tok.getD i [])) 0 x.tok.length
def cnC(col:List (List Int))(s:Nat):Nat→Nat
 |0=>0
 |i+1=>cnC col s i+if (col.getD i []).getD s 0= -1 then 0 else 1
def enB(tok:List (List Tk))(col:List (List Int))(i s:Nat):Bool:=
 decide ((col.getD i []).getD s 0= -1)||(decide ((col.getD i []).getD s 0=(cnC col s i:Int))&&decide ((col.getD i []).getD s 0<((tok.getD s []).length:Int)))
def qfn(tok:List (List Tk))(col:List (List Int))(i:Nat):Bool:=
 decide ((col.getD i []).length=tok.length)&&(!ju (fun s=> !enB tok col i s) tok.length&&ju (fun s=> !decide ((col.getD i []).getD s 0= -1)) tok.length)
def alB(tok:List (List Tk))(col:List (List Int)):Bool:=
 !ju (fun i=> !qfn tok col i) col.length&& !ju (fun s=> !decide (cnC col s col.length=(tok.getD s []).length)) tok.length
def coE(x:Co):Int:=if srE x≠0 then srE x else if alB x.tok x.col=false then 19 else 0
structure CoOk (x:Co):Prop where
 sg:0<x.sig.length∧x.sig.length≤32
 tn:x.tok.length=x.sig.length
 tl: ∀s,s<x.tok.length→(x.tok.getD s []).length≤1024
 te: ∀s,s<x.tok.length→ ∀j,j<(x.tok.getD s []).length→tkE ((x.tok.getD s []).getD j default)=0
 cl: ∀i,i<x.col.length→(x.col.getD i []).length=x.sig.length
 ce: ∀i,i<x.col.length→ ∀s,s<x.sig.length→(x.col.getD i []).getD s 0= -1∨((x.col.getD i []).getD s 0=(cnC x.col s i:Int)∧(x.col.getD i []).getD s 0<((x.tok.getD s []).length:Int))
 cs: ∀i,i<x.col.length→ ∃s,s<x.sig.length∧(x.col.getD i []).getD s 0≠ -1
 ct: ∀s,s<x.sig.length→cnC x.col s x.col.length=(x.tok.getD s []).length
theorem qci{x:Co}(h:coE x=0):CoOk x:=by
 unfold coE at h;split at h
 ·rename_i h1;exact absurd h h1
 rename_i h1;have h1:=Classical.not_not.1 h1;split at h
 ·cases h
 rename_i h2;unfold srE at h1;split at h1
 ·cases h1
 split at h1
 ·cases h1
 rename_i g2;split at h1
 ·cases h1
 rename_i g3;split at h1
 ·rename_i g4;exact absurd h1 g4
 split at h1
 ·cases h1
 rename_i g5;have g5:=Classical.not_not.1 g5;have h3:=jD.1 h1;have h2:alB x.tok x.col=true:=by simpa using h2
 unfold alB at h2;rw[Bool.and_eq_true,Bool.not_eq_true',Bool.not_eq_true',qt,qt]at h2;obtain⟨h4,h5⟩:=h2;have h6: ∀i,i<x.col.length→qfn x.tok x.col i=true:=fun i hi=>by simpa using h4 i hi
 have hrow: ∀s,s<x.tok.length→(x.tok.getD s []).length≤1024∧ ∀j,j<(x.tok.getD s []).length→tkE ((x.tok.getD s []).getD j default)=0:=fun s hs=>by
  have:=h3 s hs
  unfold qeO at this;split at this
  ·cases this
  rename_i k1;split at this
  ·cases this
  rename_i k2;refine⟨om,fun j hj=> ?_⟩
  have:=qt.1 (by simpa using k2) j hj
  simpa using this
 refine⟨om,g5,fun s hs=>(hrow s hs).1,fun s hs=>(hrow s hs).2,fun i hi=> ?_,fun i hi s hs=> ?_,fun i hi=> ?_,fun s hs=> ?_⟩
 ·have:=h6 i hi
  unfold qfn at this;rw[Bool.and_eq_true,decide_eq_true_iff]at this;omega
 ·have:=h6 i hi
  unfold qfn at this;rw[Bool.and_eq_true,Bool.and_eq_true,Bool.not_eq_true',qt]at this
  have:=this.2.1 s om
  have this:enB x.tok x.col i s=true:=by simpa using this
  unfold enB at this;simpa[Bool.or_eq_true,Bool.and_eq_true] using this
 ·have:=h6 i hi
  unfold qfn at this;rw[Bool.and_eq_true,Bool.and_eq_true]at this;obtain⟨s,hs,hv⟩:=qR.1 this.2.2;exact⟨s,om,by simpa using hv⟩
 ·have:=h5 s om
  simpa using this
end RC
end
section
open Go Go.Proofs AF
def zX:List Nat:= []
def kO:C:=
 ((C.ops [O1 1 (.box 0 103) 0,MC 2 (i6 0)]).seq (((C.ops [O1 6 (.fldA 4) 1,LD 7 6,BC 8 .lss 7 (i6 0),MV 9 8,P1 10 9 false (.fldA 4) 1,P1 11 9 false (.load none) 10,PC 12 9
 false (.bin .gtr) 11 (i6 31),PT 13 9 12]).seq (C.cond (.t 13) ((C.ops [MC 2 (i6 2)]).seq C.ret) C.skip)).seq ((C.ops [O1 14 (.fldA 4) 1,LD 15 14,BC 16 .and 15 (i6 2),BC 17 .neq
 16 (i6 0),O1 18 (.fldA 4) 1,LD 19 18,BC 20 .and 19 (i6 8),BC 21 .neq 20 (i6 0),MV 3 17,MV 4 21]).seq (((C.ops [MV 22 3,MV 23 22,MG 24 23 true 4,PF 25 23 24]).seq (C.cond
 (.t 25) ((C.ops [MC 2 (i6 8)]).seq C.ret) C.skip)).seq ((C.ops [MC 5 (.fn (Fn.func 129) [] [])]).seq (((C.ops [MV 26 3]).seq (C.cond (.t 26) (C.ops [MC 5 (.fn (Fn.func 207) []
 [])]) C.skip)).seq (((C.ops [MV 27 4]).seq (C.cond (.t 27) (C.ops [MC 5 (.fn (Fn.func 208) [] [])]) C.skip)).seq ((C.block 0 (((C.ops [MV 29 5,O1 30 (.fldA 0) 1,LD 31 30,O2 32
 .callv 29 31,O1 33 (.un UnOp.not) 32,MV 28 33]).seq (C.cond (.t 28) C.skip ((C.ops [O1 34 (.load (some 6)) 1,O1 35 (.call 209 true) 34,MV 36 35,P1 37 36 true (.fldA 1) 1,P1
 38 36 true (.load none) 37,P1 39 36 true (.call 210 true) 38,P1 40 36 true (.un UnOp.not) 39,PF 41 36 40,MV 28 41]).seq (C.cond (.t 28) C.skip (C.ops [O1 42 (.load (some 6)) 1,
 O1 43 (.call 209 true) 42,O1 44 (.un UnOp.not) 43,MV 45 44,P1 46 45 true (.fldA 1) 1,P1 47 45 true (.load none) 46,P1 48 45 true (.fldA 0) 1,P1 49 45 true (.load none) 48,P2
 50 45 true (.bin .neq) 47 49,PF 51 45 50,MV 28 51]))))).seq (C.cond (.t 28) ((C.ops [MC 2 (i6 11)]).seq C.ret) ((C.ops [O1 53 (.fldA 2) 1,O1 54 (.fldA 1) 53,LD 55 54,BC 56
 .lss 55 (i6 0),MV 52 56]).seq (C.cond (.t 52) ((C.ops [MC 2 (i6 2)]).seq C.ret) ((C.ops [O1 58 (.fldA 2) 1,O1 59 (.fldA 0) 58,LD 60 59,O1 61 (.call 211 true) 60,O1 62 (.un
 UnOp.not) 61,MV 63 62,P1 64 63 false (.fldA 5) 1,P1 65 63 false (.load none) 64,P1 66 63 false (.call 211 true) 65,P1 67 63 false (.un UnOp.not) 66,PT 68 63 67,MV 57
 68]).seq (C.cond (.t 57) ((C.ops [MC 2 (i6 14)]).seq C.ret) C.skip))))))).seq ((C.ops [MC 2 (i6 0)]).seq
 C.ret)))))))))
theorem jo:qM Tryz.prog 163 69 1 [RV.tmp 2] kO:=fi Tryz.f163 [1] zX []
def qee:C:=
 ((C.ops [MC 2 (.bool false)]).seq (((C.ops [MV 5 0,O1 6 .slen 5,BC 7 .lss 6 (i6 3),MV 8 7,MG 9 8 false 0,PC 10 8 false .sidx 9 (i6 0),PC 11 8 false (.bin .neq) 10 (.int .u8
 91),PT 12 8 11,MV 13 12,MG 14 13 false 0,MG 15 13 false 0,P1 16 13 false .slen 15,PC 17 13 false (.bin .sub) 16 (i6 1),P2 18 13 false .sidx 14 17,PC 19 13 false (.bin .neq)
 18 (.int .u8 93),PT 20 13 19]).seq (C.cond (.t 20) ((C.ops [MC 2 (.bool false)]).seq C.ret) C.skip)).seq ((C.ops [MV 22 0,MV 23 0,O1 24 .slen 23,BC 25 .sub 24 (i6 1),ON 26
 (.sslc true true) [.t 22,.c (i6 1),.t 25],O1 27 (.call 242 true) 26,MV 21 27,O1 28 (.ext 0) 21,O1 29 (.ext 1) 21,MV 3 28,MV 4 29]).seq ((C.ops [MV 30 4,O1 31 (.isnil
 .iface false) 30,MV 32 31,MG 33 32 true 3,PC 34 32 true (.bin .geq) 33 (i6 1),PF 35 32 34,MV 36 35,MG 37 36 true 3,PC 38 36 true (.bin .leq) 37 (i6 64),PF 39 36 38,MV 40
 39,MG 41 40 true 0,MG 42 40 true 3,P1 43 40 true (.call 152 true) 42,PN 44 40 true (.bin .add) [.c (.str [91]),.t 43],PC 45 40 true (.bin .add) 44 (.str [93]),P2 46 40 true
 (.bin .eql) 41 45,PF 47 40 46,MV 2 47]).seq
 C.ret))))
theorem qck:qM Tryz.prog 207 48 0 [RV.tmp 2] qee:=fi Tryz.f207 [] zX []
def qpq:C:=
 ((C.ops [MC 2 (.bool false)]).seq (((C.ops [MV 4 0,O1 5 .slen 4,BC 6 .neq 5 (i6 1)]).seq (C.cond (.t 6) ((C.ops [MC 2 (.bool false)]).seq C.ret) C.skip)).seq ((C.ops [MV 7 0,OC
 8 .sidx 7 (i6 0),O1 9 (.call 176 true) 8,MV 3 9]).seq ((C.ops [MV 10 3,BC 11 .eql 10 (i6 5),MV 12 11,MG 13 12 false 3,PC 14 12 false (.bin .eql) 13 (i6 4),PT 15 12 14,MV 2
 15]).seq
 C.ret))))
theorem ql2:qM Tryz.prog 208 16 0 [RV.tmp 2] qpq:=fi Tryz.f208 [] zX []
def qxA:C:=
 ((C.ops [O1 1 (.box 0 103) 0,MC 2 (.bool false)]).seq ((C.ops [O1 3 (.fldA 4) 1,LD 4 3,BC 5 .and 4 (i6 10),BC 6 .eql 5 (i6 0),MV 2 6]).seq
 C.ret))
theorem qza:qM Tryz.prog 209 7 1 [RV.tmp 2] qxA:=fi Tryz.f209 [1] zX []
def qxB:C:=
 ((C.ops [MC 2 (.bool false)]).seq (((C.ops [MV 4 0,O1 5 .slen 4,MC 6 (i6 0)]).seq (C.block 0 ((C.ops [BI 7 .lss 6 5]).seq ((C.cond (.t 7) C.skip (C.exit 0)).seq ((C.block 1
 ((C.ops [MV 8 6,MV 3 8]).seq ((C.ops [MV 9 0,MV 10 3,O2 11 .sidx 9 10,O1 12 (.call 243 true) 11,O1 13 (.un UnOp.not) 12]).seq (C.cond (.t 13) ((C.ops [MC 2 (.bool false)]).seq
 C.ret) C.skip)))).seq (C.ops [BC 14 .add 6 (i6 1),MV 6 14])))).loop)).seq ((C.ops [MV 15 0,BC 16 .neq 15 (.str []),MV 17 16,MG 18 17 true 0,P1 19 17 true .slen 18,PC 20 17
 true (.bin .leq) 19 (i6 64),PF 21 17 20,MV 2 21]).seq
 C.ret)))
theorem qzc:qM Tryz.prog 210 22 0 [RV.tmp 2] qxB:=fi Tryz.f210 [] zX []
def qtt:C:=
 ((C.ops [MC 2 (.bool false)]).seq ((C.ops [MV 3 0,BC 4 .eql 3 (.str []),MV 5 4,MG 6 5 false 0,P1 7 5 false (.call 158 true) 6,PT 8 5 7,MV 2 8]).seq
 C.ret))
theorem qss:qM Tryz.prog 211 9 0 [RV.tmp 2] qtt:=fi Tryz.f211 [] zX []
def qpr:C:=
 ((C.ops [MC 2 (.bool false)]).seq ((C.ops [MV 4 0,O1 5 (.call 176 true) 4,MV 3 5]).seq ((C.ops [MV 6 0,O1 7 (.call 274 true) 6,MV 8 7,MG 9 8 false 3,PC 10 8 false (.bin .eql)
 9 (i6 2),PT 11 8 10,MV 12 11,MG 13 12 false 3,PC 14 12 false (.bin .eql) 13 (i6 4),PT 15 12 14,MV 2 15]).seq
 C.ret)))
theorem ql3:qM Tryz.prog 243 16 0 [RV.tmp 2] qpr:=fi Tryz.f243 [] zX []
def qtA:C:=
 ((C.ops [MC 2 (.bool false)]).seq ((C.ops [MV 4 0,O1 5 (.call 176 true) 4,MV 3 5]).seq ((C.ops [MV 6 3,BC 7 .eql 6 (i6 1),MV 8 7,MG 9 8 false 3,PC 10 8 false (.bin .eql) 9
 (i6 3),PT 11 8 10,MV 2 11]).seq
 C.ret)))
theorem qsz:qM Tryz.prog 274 12 0 [RV.tmp 2] qtA:=fi Tryz.f274 [] zX []
def qCj:C:=
 ((C.ops [O1 1 (.box 0 26) 0,MC 2 (i6 0)]).seq (((C.ops [O1 4 (.fldA 0) 1,LD 5 4,O1 6 (.fldA 1) 1,LD 7 6,O1 8 (.fldA 2) 1,LD 9 8,ON 10 (.call 120 true) [.t 5,.t 7,.t 9],MV
 3 10]).seq ((C.ops [MV 11 3,BC 12 .neq 11 (i6 0)]).seq (C.cond (.t 12) ((C.ops [MV 13 3,MV 2 13]).seq C.ret) C.skip))).seq (((C.ops [O1 14 (.fldA 2) 1,LD 15 14,O1 16 (.fldA 3)
 1,LD 17 16,O2 18 (.call 121 true) 15 17,BC 19 .neq 18 (i6 0)]).seq (C.cond (.t 19) ((C.ops [MC 2 (i6 19)]).seq C.ret) C.skip)).seq ((C.ops [MC 2 (i6 0)]).seq
 C.ret))))
theorem qzO:qM Tryz.prog 67 20 1 [RV.tmp 2] qCj:=fi Tryz.f67 [1] zX []
def qkX:C:=
 ((C.ops [MC 6 (i6 0)]).seq ((C.block 0 ((C.ops [MV 12 0,O1 13 (.call 158 true) 12,O1 14 (.un UnOp.not) 13,MV 11 14]).seq (C.cond (.t 11) ((C.ops [MC 6 (i6 14)]).seq C.ret)
 ((C.ops [MV 16 1,O1 17 .len 16,BC 18 .eql 17 (i6 0),MV 15 18]).seq (C.cond (.t 15) ((C.ops [MC 6 (i6 5)]).seq C.ret) ((C.ops [MV 20 1,O1 21 .len 20,BC 22 .gtr 21 (i6 32),MV
 19 22]).seq (C.cond (.t 19) ((C.ops [MC 6 (i6 4)]).seq C.ret) C.skip))))))).seq (((C.ops [MV 23 1,O1 24 .len 23,MC 25 (i6 0)]).seq (C.block 1 ((C.ops [BI 26 .lss 25 24]).seq
 ((C.cond (.t 26) C.skip (C.exit 1)).seq ((C.block 2 ((C.ops [MV 27 25,O2 28 (.idxA 1) 23 25,LD 29 28,MV 7 27,MV 8 29]).seq (((C.ops [MV 30 8,O1 31 (.call 159 true) 30,O1 32
 (.un UnOp.not) 31]).seq (C.cond (.t 32) ((C.ops [MC 6 (i6 14)]).seq C.ret) C.skip)).seq ((C.ops [MV 33 1,MV 34 7,O2 35 (.slc 1 false true) 33 34,MV 36 8,O2 37 (.call 160 true)
 35 36]).seq (C.cond (.t 37) ((C.ops [MC 6 (i6 7)]).seq C.ret) C.skip))))).seq (C.ops [BC 38 .add 25 (i6 1),MV 25 38])))).loop)).seq (((C.ops [MV 39 2,O1 40 .len 39,MV 41 1,O1
 42 .len 41,BI 43 .neq 40 42]).seq (C.cond (.t 43) ((C.ops [MC 6 (i6 9)]).seq C.ret) C.skip)).seq (((C.ops [MV 44 2,O1 45 .len 44,MC 46 (i6 0)]).seq (C.block 3 ((C.ops [BI 47
 .lss 46 45]).seq ((C.cond (.t 47) C.skip (C.exit 3)).seq ((C.block 4 ((C.ops [O2 48 (.idxA 1) 44 46,LD 49 48,MV 10 49]).seq (((C.ops [MV 50 10,O1 51 .len 50,BC 52 .gtr 51 (i6
 1024)]).seq (C.cond (.t 52) ((C.ops [MC 6 (i6 4)]).seq C.ret) C.skip)).seq ((C.ops [MV 53 10,OC 54 (.call 161 true) 53 (.fn (Fn.func 162) [] [])]).seq (C.cond (.t 54) ((C.ops [MC
 6 (i6 1)]).seq C.ret) C.skip))))).seq (C.ops [BC 55 .add 46 (i6 1),MV 46 55])))).loop)).seq ((C.ops [MC 6 (i6 0)]).seq
 C.ret))))))
theorem qhs:qM Tryz.prog 120 56 0 [RV.tmp 6] qkX:=fi Tryz.f120 [] zX []
def qxj:C:=
 ((C.ops [O1 1 (.box 0 103) 0,MC 2 (.bool false)]).seq ((C.ops [O1 3 (.load (some 6)) 1,O1 4 (.call 163 true) 3,BC 5 .neq 4 (i6 0),MV 2 5]).seq
 C.ret))
theorem qyS:qM Tryz.prog 162 6 1 [RV.tmp 2] qxj:=fi Tryz.f162 [1] zX []
def qk1:C:=
 ((C.ops [MC 2 (.bool false)]).seq ((C.ops [MV 6 0,OC 7 (.call 205 true) 6 (.str [42]),MV 5 7,O1 8 (.ext 0) 5,O1 9 (.ext 1) 5,MV 3 8,MV 4 9]).seq ((C.ops [MV 10 3,O1 11
 (.call 158 true) 10,MV 12 11,MG 13 12 true 4,P1 14 12 true (.un UnOp.not) 13,MG 15 12 true 14,MG 16 15 false 0,P1 17 15 false .slen 16,PC 18 15 false (.bin .leq) 17 (i6 16),
 QT 19 12 true 15 18,PF 20 12 19,MV 2 20]).seq
 C.ret)))
theorem qhw:qM Tryz.prog 159 21 0 [RV.tmp 2] qk1:=fi Tryz.f159 [] zX []
def qxk:C:=
 ((C.ops [MC 2 (i6 0)]).seq ((C.block 0 ((C.ops [MV 4 0,O1 5 .len 4,BC 6 .eql 5 (i6 0),MV 3 6]).seq (C.cond (.t 3) ((C.ops [MC 2 (i6 5)]).seq C.ret) ((C.ops [MV 8 0,O1 9 .len 8,
 BC 10 .gtr 9 (i6 32),MV 11 10,MG 12 11 false 0,PC 13 11 false (.call 212 true) 12 (.fn (Fn.func 213) [] []),PT 14 11 13,MV 7 14]).seq (C.cond (.t 7) ((C.ops [MC 2 (i6 4)]).seq
 C.ret) C.skip))))).seq ((C.ops [MC 2 (i6 0)]).seq
 C.ret)))
theorem qyT:qM Tryz.prog 164 15 0 [RV.tmp 2] qxk:=fi Tryz.f164 [] zX []
def qxC:C:=
 ((C.ops [MC 2 (.bool false)]).seq ((C.ops [MV 3 0,O1 4 .len 3,BC 5 .gtr 4 (i6 1024),MV 2 5]).seq
 C.ret))
theorem qze:qM Tryz.prog 213 6 0 [RV.tmp 2] qxC:=fi Tryz.f213 [] zX []
def qw2:C:=
 ((C.ops [MC 4 (i6 0)]).seq (((C.ops [MV 6 0,O1 7 (.call 164 true) 6,MV 5 7]).seq ((C.ops [MV 8 5,BC 9 .neq 8 (i6 0)]).seq (C.cond (.t 9) ((C.ops [MV 10 5,MV 4 10]).seq C.ret)
 C.skip))).seq (((C.ops [MV 11 0,MV 12 1,O2 13 (.call 165 true) 11 12,O1 14 (.un UnOp.not) 13]).seq (C.cond (.t 14) ((C.ops [MC 4 (i6 19)]).seq C.ret) C.skip)).seq ((C.ops [MC 4
 (i6 0)]).seq
 C.ret))))
theorem qyA:qM Tryz.prog 121 15 0 [RV.tmp 4] qw2:=fi Tryz.f121 [] zX []
def qxl:C:=
 ((C.ops [MC 4 (.bool false)]).seq ((C.ops [MV 12 0,O1 13 .len 12,⟨some 14,none,.mkslc 0 1 3 [i6 0] 8,[.t 13,.t 13]⟩,MV 5 14]).seq (((C.ops [MV 15 1,O1 16 .len 15,MC 17 (i6
 0)]).seq (C.block 0 ((C.ops [BI 18 .lss 17 16]).seq ((C.cond (.t 18) C.skip (C.exit 0)).seq ((C.block 1 ((C.ops [O2 19 (.idxA 1) 15 17,LD 20 19,MV 7 20]).seq (((C.ops [MV 21 7,
 O1 22 .len 21,MV 23 0,O1 24 .len 23,BI 25 .neq 22 24]).seq (C.cond (.t 25) ((C.ops [MC 4 (.bool false)]).seq C.ret) C.skip)).seq ((C.ops [MC 8 (.bool false)]).seq (((C.ops [MV
 26 7,O1 27 .len 26,MC 28 (i6 0)]).seq (C.block 2 ((C.ops [BI 29 .lss 28 27]).seq ((C.cond (.t 29) C.skip (C.exit 2)).seq ((C.block 3 ((C.ops [MV 30 28,O2 31 (.idxA 1) 26 28,LD
 32 31,MV 9 30,MV 10 32]).seq (((C.ops [MV 33 10,BC 34 .eql 33 (i6 (-1))]).seq (C.cond (.t 34) (C.exit 3) C.skip)).seq (((C.ops [MV 35 10,MV 36 5,MV 37 9,O2 38 (.idxA 1) 36
 37,LD 39 38,BI 40 .neq 35 39,MV 41 40,MG 42 41 false 10,MG 43 41 false 0,MG 44 41 false 9,P2 45 41 false (.idxA 1) 43 44,P1 46 41 false (.load none) 45,P1 47 41 false .len
 46,P2 48 41 false (.bin .geq) 42 47,PT 49 41 48]).seq (C.cond (.t 49) ((C.ops [MC 4 (.bool false)]).seq C.ret) C.skip)).seq ((C.ops [MV 50 5,MV 51 9,O2 52 (.idxA 1) 50 51,LD
 53 52,BC 54 .add 53 (i6 1),O2 55 (.idxA 1) 50 51,ST 1 55 54]).seq (C.ops [MC 8 (.bool true)])))))).seq (C.ops [BC 56 .add 28 (i6 1),MV 28 56])))).loop)).seq ((C.ops [MV 57 8,
 O1 58 (.un UnOp.not) 57]).seq (C.cond (.t 58) ((C.ops [MC 4 (.bool false)]).seq C.ret) C.skip))))))).seq (C.ops [BC 59 .add 17 (i6 1),MV 17 59])))).loop)).seq (((C.ops [MV 60 0,
 O1 61 .len 60,MC 62 (i6 0)]).seq (C.block 4 ((C.ops [BI 63 .lss 62 61]).seq ((C.cond (.t 63) C.skip (C.exit 4)).seq ((C.block 5 ((C.ops [MV 64 62,MV 11 64]).seq ((C.ops [MV 65 5,
 MV 66 11,O2 67 (.idxA 1) 65 66,LD 68 67,MV 69 0,MV 70 11,O2 71 (.idxA 1) 69 70,LD 72 71,O1 73 .len 72,BI 74 .neq 68 73]).seq (C.cond (.t 74) ((C.ops [MC 4 (.bool
 false)]).seq C.ret) C.skip)))).seq (C.ops [BC 75 .add 62 (i6 1),MV 62 75])))).loop)).seq ((C.ops [MC 4 (.bool true)]).seq
 C.ret)))))
theorem qyU:qM Tryz.prog 165 76 1 [RV.tmp 4] qxl:=fi Tryz.f165 [14] zX []
def qCg:C:=
 ((C.ops [O1 1 (.box 0 26) 0,MC 2 (i6 0)]).seq (((C.ops [O1 10 (.fldA 0) 1,LD 11 10,O1 12 (.fldA 1) 1,LD 13 12,O1 14 (.fldA 2) 1,LD 15 14,ON 16 (.call 86 true) [.t 11,.t 13,
 .t 15],MV 3 16]).seq ((C.ops [MV 17 3,BC 18 .neq 17 (i6 0)]).seq (C.cond (.t 18) ((C.ops [MV 19 3,MV 2 19]).seq C.ret) C.skip))).seq ((C.ops [O1 20 (.fldA 1) 1,LD 21 20,O1 22
 .len 21,⟨some 23,none,.mkslc 1 1 3 [i6 0] 8,[.t 22,.t 22]⟩,MV 4 23]).seq (((C.ops [MC 5 (i6 0)]).seq (C.block 0 (((C.ops [MV 24 5,O1 25 (.fldA 3) 1,LD 26 25,O1 27 .len 26,
 BI 28 .lss 24 27]).seq (C.cond (.t 28) C.skip (C.exit 0))).seq ((C.block 1 ((C.ops [O1 31 (.fldA 3) 1,LD 32 31,MV 33 5,O2 34 (.idxA 1) 32 33,LD 35 34,MV 6 35]).seq (((C.ops
 [MV 36 6,O1 37 .len 36,MV 38 4,O1 39 .len 38,BI 40 .neq 37 39]).seq (C.cond (.t 40) ((C.ops [MC 2 (i6 19)]).seq C.ret) C.skip)).seq ((C.ops [MC 7 (.bool false)]).seq (((C.ops
 [MC 8 (i6 0)]).seq (C.block 2 (((C.ops [MV 41 8,MV 42 6,O1 43 .len 42,BI 44 .lss 41 43]).seq (C.cond (.t 44) C.skip (C.exit 2))).seq ((C.block 3 (((C.ops [MV 47 6,MV 48 8,O2
 49 (.idxA 1) 47 48,LD 50 49,BC 51 .eql 50 (i6 (-1))]).seq (C.cond (.t 51) (C.exit 3) C.skip)).seq (((C.ops [MV 52 6,MV 53 8,O2 54 (.idxA 1) 52 53,LD 55 54,MV 56 4,MV 57 8,
 O2 58 (.idxA 1) 56 57,LD 59 58,BI 60 .neq 55 59,MV 61 60,MG 62 61 false 6,MG 63 61 false 8,P2 64 61 false (.idxA 1) 62 63,P1 65 61 false (.load none) 64,P1 66 61 false
 (.fldA 2) 1,P1 67 61 false (.load none) 66,MG 68 61 false 8,P2 69 61 false (.idxA 1) 67 68,P1 70 61 false (.load none) 69,P1 71 61 false .len 70,P2 72 61 false (.bin .geq) 65
 71,PT 73 61 72]).seq (C.cond (.t 73) ((C.ops [MC 2 (i6 19)]).seq C.ret) C.skip)).seq ((C.ops [MV 74 4,MV 75 8,O2 76 (.idxA 1) 74 75,LD 77 76,BC 78 .add 77 (i6 1),O2 79 (.idxA
 1) 74 75,ST 1 79 78]).seq (C.ops [MC 7 (.bool true)]))))).seq (C.ops [MV 45 8,BC 46 .add 45 (i6 1),MV 8 46]))).loop)).seq ((C.ops [MV 80 7,O1 81 (.un UnOp.not) 80]).seq (C.cond
 (.t 81) ((C.ops [MC 2 (i6 19)]).seq C.ret) C.skip))))))).seq (C.ops [MV 29 5,BC 30 .add 29 (i6 1),MV 5 30]))).loop)).seq (((C.ops [MC 9 (i6 0)]).seq (C.block 4 (((C.ops [MV 82 9,
 MV 83 4,O1 84 .len 83,BI 85 .lss 82 84]).seq (C.cond (.t 85) C.skip (C.exit 4))).seq ((C.block 5 ((C.ops [MV 88 4,MV 89 9,O2 90 (.idxA 1) 88 89,LD 91 90,O1 92 (.fldA 2) 1,LD
 93 92,MV 94 9,O2 95 (.idxA 1) 93 94,LD 96 95,O1 97 .len 96,BI 98 .neq 91 97]).seq (C.cond (.t 98) ((C.ops [MC 2 (i6 19)]).seq C.ret) C.skip))).seq (C.ops [MV 86 9,BC 87 .add
 86 (i6 1),MV 9 87]))).loop)).seq ((C.ops [MC 2 (i6 0)]).seq
 C.ret))))))
theorem qzH:qM Tryz.prog 29 99 2 [RV.tmp 2] qCg:=fi Tryz.f29 [1,23] zX []
def qya:C:=
 ((C.ops [MC 6 (i6 0)]).seq (((C.ops [MV 11 0,O1 12 (.call 136 true) 11,O1 13 (.un UnOp.not) 12]).seq (C.cond (.t 13) ((C.ops [MC 6 (i6 14)]).seq C.ret) C.skip)).seq (((C.ops [MV
 14 1,O1 15 .len 14,BC 16 .eql 15 (i6 0)]).seq (C.cond (.t 16) ((C.ops [MC 6 (i6 5)]).seq C.ret) C.skip)).seq (((C.ops [MV 17 1,O1 18 .len 17,BC 19 .gtr 18 (i6 32)]).seq (C.cond
 (.t 19) ((C.ops [MC 6 (i6 4)]).seq C.ret) C.skip)).seq (((C.ops [MC 7 (i6 0)]).seq (C.block 0 (((C.ops [MV 20 7,MV 21 1,O1 22 .len 21,BI 23 .lss 20 22]).seq (C.cond (.t 23)
 C.skip (C.exit 0))).seq ((C.block 1 (((C.ops [MV 26 1,MV 27 7,O2 28 (.idxA 1) 26 27,LD 29 28,O1 30 (.call 137 true) 29,O1 31 (.un UnOp.not) 30]).seq (C.cond (.t 31) ((C.ops
 [MC 6 (i6 14)]).seq C.ret) C.skip)).seq ((C.ops [MC 8 (i6 0)]).seq (C.block 2 (((C.ops [MV 32 8,MV 33 7,BI 34 .lss 32 33]).seq (C.cond (.t 34) C.skip (C.exit 2))).seq ((C.block 3
 ((C.ops [MV 37 1,MV 38 8,O2 39 (.idxA 1) 37 38,LD 40 39,MV 41 1,MV 42 7,O2 43 (.idxA 1) 41 42,LD 44 43,BI 45 .eql 40 44]).seq (C.cond (.t 45) ((C.ops [MC 6 (i6 7)]).seq
 C.ret) C.skip))).seq (C.ops [MV 35 8,BC 36 .add 35 (i6 1),MV 8 36]))).loop)))).seq (C.ops [MV 24 7,BC 25 .add 24 (i6 1),MV 7 25]))).loop)).seq (((C.ops [MV 46 2,O1 47 .len 46,
 MV 48 1,O1 49 .len 48,BI 50 .neq 47 49]).seq (C.cond (.t 50) ((C.ops [MC 6 (i6 9)]).seq C.ret) C.skip)).seq (((C.ops [MC 9 (i6 0)]).seq (C.block 4 (((C.ops [MV 51 9,MV 52 2,O1
 53 .len 52,BI 54 .lss 51 53]).seq (C.cond (.t 54) C.skip (C.exit 4))).seq ((C.block 5 (((C.ops [MV 57 2,MV 58 9,O2 59 (.idxA 1) 57 58,LD 60 59,O1 61 .len 60,BC 62 .gtr 61 (i6
 1024)]).seq (C.cond (.t 62) ((C.ops [MC 6 (i6 4)]).seq C.ret) C.skip)).seq ((C.ops [MC 10 (i6 0)]).seq (C.block 6 (((C.ops [MV 63 10,MV 64 2,MV 65 9,O2 66 (.idxA 1) 64 65,LD 67
 66,O1 68 .len 67,BI 69 .lss 63 68]).seq (C.cond (.t 69) C.skip (C.exit 6))).seq ((C.block 7 ((C.ops [MV 72 2,MV 73 9,O2 74 (.idxA 1) 72 73,LD 75 74,MV 76 10,O2 77 (.idxA 6)
 75 76,O1 78 (.load (some 6)) 77,O1 79 (.call 138 true) 78,BC 80 .neq 79 (i6 0)]).seq (C.cond (.t 80) ((C.ops [MC 6 (i6 1)]).seq C.ret) C.skip))).seq (C.ops [MV 70 10,BC 71 .add
 70 (i6 1),MV 10 71]))).loop)))).seq (C.ops [MV 55 9,BC 56 .add 55 (i6 1),MV 9 56]))).loop)).seq ((C.ops [MC 6 (i6 0)]).seq
 C.ret))))))))
theorem qqf:qM Tryz.prog 86 81 0 [RV.tmp 6] qya:=fi Tryz.f86 [] zX []
def qkZ:C:=
 ((C.ops [MC 2 (.bool false)]).seq (((C.ops [MV 4 0,O1 5 .slen 4,MV 3 5]).seq ((C.ops [MV 6 3,BC 7 .gtr 6 (i6 0),MV 8 7,MG 9 8 true 0,MG 10 8 true 3,PC 11 8 true (.bin .sub)
 10 (i6 1),P2 12 8 true .sidx 9 11,PC 13 8 true (.bin .eql) 12 (.int .u8 42),PF 14 8 13]).seq (C.cond (.t 14) ((C.ops [MV 15 3,BC 16 .leq 15 (i6 16),MV 17 16,MG 18 17 true 0,
 MG 19 17 true 3,PC 20 17 true (.bin .sub) 19 (i6 1),P2 21 17 true (.sslc false true) 18 20,P1 22 17 true (.call 136 true) 21,PF 23 17 22,MV 2 23]).seq C.ret) C.skip))).seq
 ((C.ops [MV 24 0,O1 25 (.call 136 true) 24,MV 2 25]).seq
 C.ret)))
theorem qhu:qM Tryz.prog 137 26 0 [RV.tmp 2] qkZ:=fi Tryz.f137 [] zX []
end
section
open Go Go.Proofs AF HY LN
namespace RC
theorem qDq(s:Str)(h:List AObj)(hs:s.length≤1000000000):ACalls Tryz.prog 211 [.str s] h (.bool (qmE s)) h:=by
 have c1:=fun h=>t44 s h hs
 unfold qmE
 by_cases g:s= []
 ·subst g;rw[dqt rfl,Bool.true_or];refine acO qss ?_;simp (disch:=omega) only[qtt,go_sem]
  repeat' first
   |(refine qj ( .bool false) ?_;simp (disch:=omega) only[go_sem])
   |(apply qd;exact rvk;simp only[go_sem];exact qi)
 ·have k1:(s= [])=False:=eqf g;rw[dqf g,Bool.false_or];refine acO qss ?_;simp (disch:=omega) only[qtt,k1,go_sem]
  repeat' first
   |(refine cG (fun e=>c1 _) flk ?_;simp (disch:=omega) only[go_sem])
   |(apply qd;exact rvk;simp only[go_sem];exact qi)
theorem qFt(s:Str)(h:List AObj)(hs:s.length≤1000000000):ACalls Tryz.prog 208 [.str s] h (.bool (qwz s)) h:=by
 unfold qwz
 by_cases g:s.length=1
 ·have k1:((s.length:Int)=1)=True:=eqt om;have k2:((0:Int)<s.length)=True:=eqt om;have e:(s[0]?).getD 0=ch s 0:=by simp[ch,gdqA]
  have c5:=fun h=>qcE (ch s 0) h
  rw[dqt g,Bool.true_and];obtain⟨k,hk⟩: ∃k,k=kind (ch s 0):=⟨_,rfl⟩
  rw[←hk]at c5 ⊢
  by_cases g1:k=5
  ·have q1:(k=5)=True:=eqt g1;rw[dqt g1,Bool.true_or];refine acO ql2 ?_;simp (disch:=omega) only[qpq,k1,go_sem]
   repeat' first
    |(refine cA (c5 _) flk ?_;simp (disch:=omega) only[e,q1,go_sem])
    |(apply qd;exact rvk;simp only[go_sem];exact qi)
    |with_reducible apply aiA
   all_goals try exact clz
  ·have q1:(k=5)=False:=eqf g1;rw[dqf g1,Bool.false_or];refine acO ql2 ?_;simp (disch:=omega) only[qpq,k1,go_sem]
   repeat' first
    |(refine cA (c5 _) flk ?_;simp (disch:=omega) only[e,q1,go_sem])
    |(apply qd;exact rvk;simp only[go_sem];exact qi)
    |with_reducible apply aiA
   all_goals try exact clz
 ·have k1:((s.length:Int)=1)=False:=eqf om;rw[dqf g,Bool.false_and];refine acO ql2 ?_;simp (disch:=omega) only[qpq,k1,go_sem]
  repeat' first
   |(apply qd;exact rvk;simp only[go_sem];exact qi)
theorem qBX(c:UInt8)(h:List AObj):ACalls Tryz.prog 274 [.int .u8 (c.toNat:Int)] h (.bool (decide (kind c=1)||decide (kind c=3))) h:=by
 have c5:=fun h=>qcE c h
 obtain⟨k,hk⟩: ∃k,k=kind c:=⟨_,rfl⟩
 rw[←hk]at c5 ⊢
 by_cases g1:k=1
 ·have q1:(k=1)=True:=eqt g1;rw[dqt g1,Bool.true_or];refine acO qsz ?_;simp (disch:=omega) only[qtA,go_sem]
  repeat' first
   |(refine cA (c5 _) flk ?_;simp (disch:=omega) only[q1,go_sem])
   |(apply qd;exact rvk;simp only[go_sem];exact qi)
 ·have q1:(k=1)=False:=eqf g1;rw[dqf g1,Bool.false_or];refine acO qsz ?_;simp (disch:=omega) only[qtA,go_sem]
  repeat' first
   |(refine cA (c5 _) flk ?_;simp (disch:=omega) only[q1,go_sem])
   |(apply qd;exact rvk;simp only[go_sem];exact qi)
theorem qB1(c:UInt8)(h:List AObj):ACalls Tryz.prog 243 [.int .u8 (c.toNat:Int)] h (.bool (qaV c)) h:=by
 have c5:=fun h=>qcE c h
 have c6:=fun h=>qBX c h
 unfold qaV;rw[←Bool.or_assoc];obtain⟨k,hk⟩: ∃k,k=kind c:=⟨_,rfl⟩
 rw[←hk]at c5 c6 ⊢;obtain⟨b,hb⟩: ∃b,b=(decide (k=1)||decide (k=3)):=⟨_,rfl⟩
 rw[←hb]at c6 ⊢;cases b with
 |true=>
  rw[Bool.true_or];refine acO ql3 ?_;simp (disch:=omega) only[qpr,go_sem]
  repeat' first
   |((first|refine cA (c5 _) ?_ ?_|refine cA (c6 _) ?_ ?_);exact flk;simp (disch:=omega) only[go_sem])
   |(apply qd;exact rvk;simp only[go_sem];exact qi)
 |false=>
  rw[Bool.false_or]
  by_cases g1:k=2
  ·have q1:(k=2)=True:=eqt g1;rw[dqt g1,Bool.true_or];refine acO ql3 ?_;simp (disch:=omega) only[qpr,go_sem]
   repeat' first
    |((first|refine cA (c5 _) ?_ ?_|refine cA (c6 _) ?_ ?_);exact flk;simp (disch:=omega) only[q1,go_sem])
    |(apply qd;exact rvk;simp only[go_sem];exact qi)
  ·have q1:(k=2)=False:=eqf g1;rw[dqf g1,Bool.false_or];refine acO ql3 ?_;simp (disch:=omega) only[qpr,go_sem]
   repeat' first
    |((first|refine cA (c5 _) ?_ ?_|refine cA (c6 _) ?_ ?_);exact flk;simp (disch:=omega) only[q1,go_sem])
    |(apply qd;exact rvk;simp only[go_sem];exact qi)
theorem qDr(s:Str)(h:List AObj)(hs:s.length≤1000000000):ACalls Tryz.prog 210 [.str s] h (.bool (qwB s)) h:=by
 obtain⟨R,hR⟩: ∃R,R=qwB s:=⟨_,rfl⟩
 rw[←hR];unfold qwB at hR;refine acO qzc ?_;simp (disch:=omega) only[qxB,go_sem];refine qu (T:=fun i:Nat=>ze 22 [(0,.str s),(5,.int .i64 s.length),(6,.int .i64 i)]) (H:=fun _=>h) (inv:=fun i=>i≤s.length∧ ∀j,j<i→qaV (ch s j)=true) (m:=fun i=>s.length-i) 0 ⟨nzl _,fun j hj=>by omega⟩ (Wk.temps ?_) ?_
 ·(simp only[go_sem,qg,qc,qa,qf];try (repeat' first|(with_reducible apply aiA)|(apply qh;omega)|(apply qe;rfl)|exact qi))
 rintro i ⟨i1,i2⟩ K hK
 by_cases hi:i<s.length
 ·have k1:((i:Int)<s.length)=True:=eqt om;have e:(s[i]?).getD 0=ch s i:=by simp[ch,gdqA]
  have c1:=fun h=>qB1 (ch s i) h
  cases g:qaV (ch s i)with
  |false=>
   rw[g]at c1;have hV:R=false:=by
    have:((List.range s.length).all fun i=>qaV (ch s i))=false:=by
     rw[List.all_eq_false];exact⟨i,List.mem_range.2 hi,by simp[g]⟩
    rw[hR,this,Bool.and_false,Bool.and_false]
   rw[hV];simp (disch:=omega) only[k1,e,go_sem]
   repeat' first
    |(refine cA (c1 _) flk ?_;simp (disch:=omega) only[go_sem])
    |(apply qd;exact rvk;simp only[go_sem];exact qi)
    |with_reducible apply aiA
   all_goals try exact clz
  |true=>
   rw[g]at c1;simp (disch:=omega) only[k1,e,go_sem]
   repeat' first
    |(refine cA (c1 _) flk ?_;simp (disch:=omega) only[go_sem])
    |with_reducible apply aiA
   all_goals try exact clz
   refine hK _ _ (i+1) ⟨hi,fun j hj=> ?_⟩ om (Wk.temps ?_)
   ·by_cases e':j=i
    ·subst e';exact g
    ·exact i2 j om
   ·(simp only[go_sem,qg,qc,qa,qf];try (repeat' first|(with_reducible apply aiA)|(apply qh;omega)|(apply qe;rfl)|exact qi))
 ·have k1:((i:Int)<s.length)=False:=eqf om;have hA:((List.range s.length).all fun i=>qaV (ch s i))=true:=by
   rw[List.all_eq_true];intro j hj;exact i2 j (by have:=List.mem_range.1 hj;omega)
  rw[hA,Bool.and_true]at hR
  by_cases g:s= []
  ·have q1:(s= [])=True:=eqt g;rw[hR,dqf (fun h=>h g),Bool.false_and];simp (disch:=omega) only[k1,q1,go_sem]
   repeat' first
    |(apply qd;exact rvk;simp only[go_sem];exact qi)
  ·have q1:(s= [])=False:=eqf g;have q2:decide ((s.length:Int)≤64)=decide (s.length≤64):=decide_eq_decide.2 om;rw[hR,dqt (show s≠ []from g),Bool.true_and];simp (disch:=omega) only[k1,q1,q2,go_sem]
   repeat' first
    |(apply qd;exact rvk;simp only[go_sem];exact qi)
theorem quM{k:Nat}:1≤(Lib.itoa (k:Int)).length:=by
 rw[Lib.itoa_nonneg]
 by_cases g:k<10
 ·rw[Lib.decDigits,dif_pos g];simp
 ·rw[Lib.decDigits,dif_neg g];simp
theorem qz1{s:Str}(h:qfu s=true):3≤s.length∧((s[0]?).getD 0).toNat=91∧((s[s.length-1]?).getD 0).toNat=93∧ ∃v:Int,Lib.atoiAll ((s.drop 1).take (s.length-1-1))= .ok v∧1≤v∧v≤64∧s=91::(Lib.itoa v++ [93]):=by
 unfold qfu at h;rw[List.any_eq_true]at h;obtain⟨k,hk,e⟩:=h;have hk':k<64:=by simpa using hk
 have e:=of_decide_eq_true e;have hl:=quM (k:=k+1);obtain⟨t,ht⟩: ∃t,t=Lib.itoa ((k+1:Nat):Int):=⟨_,rfl⟩
 rw[←ht]at e hl;have ha:Lib.atoiAll t= .ok ((k+1:Nat):Int):=by rw[ht];exact qj8 om om
 have e1:s.length=t.length+2:=by rw[e];simp
 refine⟨om,by rw[e];rfl,?_,((k+1:Nat):Int),?_,om,om,by rw[←ht];exact e⟩
 ·rw[e1,e,show t.length+2-1=t.length+1 by omega,List.getElem?_cons_succ,List.getElem?_append_right (nlr _),Nat.sub_self];rfl
 ·rw[←ha,e1,e];congr 1;simp
theorem qz2{s:Str}{v:Int}(h1:1≤v)(h2:v≤64)(e:s=91::(Lib.itoa v++ [93])):qfu s=true:=by
 unfold qfu;rw[List.any_eq_true];refine⟨v.toNat-1,by simp;omega,dqt ?_⟩;rw[show ((v.toNat-1+1:Nat):Int)=v by omega];exact e
theorem qFc(s:Str)(h:List AObj)(hs:s.length≤1000000000)(hp:kQ SG h):ACalls Tryz.prog 207 [.str s] h (.bool (qfu s)) h:=by
 have hF:= @qz1 s;have hM:= @qz2 s;obtain⟨R,hR⟩: ∃R,R=qfu s:=⟨_,rfl⟩
 rw[←hR]at hF hM ⊢;have hV: ¬(R=true)→R=false:=by cases R<;>simp
 by_cases g0:s.length<3
 ·have k0:((s.length:Int)<3)=True:=eqt om;rw[hV (fun c=>by have:=(hF c).1;omega)];refine acO qck ?_;simp (disch:=omega) only[qee,k0,go_sem]
  repeat' first
   |(apply qd;exact rvk;simp only[go_sem];exact qi)
 have k0:((s.length:Int)<3)=False:=eqf om;have k1:((0:Int)<s.length)=True:=eqt om;have k2:((s.length:Int)-1).toNat=s.length-1:=by omega
 have k3:(0≤(s.length:Int)-1)=True:=eqt om;have k4:((s.length:Int)-1≤s.length)=True:=eqt om;have k5:((s.length:Int)-1<s.length)=True:=eqt om;have k6:((1:Int)≤(s.length:Int)-1)=True:=eqt om;obtain⟨m,hm⟩: ∃m,m=(s.drop 1).take (s.length-1-1):=⟨_,rfl⟩
 have hml:m.length≤s.length:=by rw[hm];simp;omega
 have em:=hm.symm;rw[em]at hF;obtain⟨a,ha⟩: ∃a,a=(s[0]?).getD 0:=⟨_,rfl⟩
 obtain⟨b,hb⟩: ∃b,b=(s[s.length-1]?).getD 0:=⟨_,rfl⟩
 have ea:=ha.symm;have eb:=hb.symm;rw[ea,eb]at hF
 by_cases g1:a.toNat=91
 case neg=>
  have q1:((a.toNat:Int)=91)=False:=eqf om;rw[hV (fun c=>g1 (hF c).2.1)];refine acO qck ?_;simp (disch:=omega) only[qee,k0,k1,k2,k3,k4,k5,k6,em,ea,eb,q1,Int.toNat_zero,Int.toNat_one,go_sem]
  repeat' first
   |(apply qd;exact rvk;simp only[go_sem];exact qi)
   |with_reducible apply aiA
  all_goals try exact clz
 have q1:((a.toNat:Int)=91)=True:=eqt om
 by_cases g2:b.toNat=93
 case neg=>
  have q2:((b.toNat:Int)=93)=False:=eqf om;rw[hV (fun c=>g2 (hF c).2.2.1)];refine acO qck ?_;simp (disch:=omega) only[qee,k0,k1,k2,k3,k4,k5,k6,em,ea,eb,q1,q2,Int.toNat_zero,Int.toNat_one,go_sem]
  repeat' first
   |(apply qd;exact rvk;simp only[go_sem];exact qi)
   |with_reducible apply aiA
  all_goals try exact clz
 have q2:((b.toNat:Int)=93)=True:=eqt om;have c180:=t50 m h (SG.err hp) om;unfold qte at c180;cases hA:Lib.atoiAll m
 case ok v=>
  rw[hA]at c180 hF;simp only at c180;obtain⟨r1,r2⟩:=qpc hA;have c181:=t48 v h (SG.pow hp) r1 r2;obtain⟨t,ht⟩: ∃t,t=Lib.itoa v:=⟨_,rfl⟩
  rw[←ht]at c181
  by_cases g3:1≤v
  case neg=>
   have q3:(1≤v)=False:=eqf g3;rw[hV (fun c=>by obtain⟨_,_,_,w,e,w1,_⟩:=hF c;cases e;exact g3 w1)];refine acO qck ?_;simp (disch:=omega) only[qee,k0,k1,k2,k3,k4,k5,k6,em,ea,eb,q1,q2,Int.toNat_zero,Int.toNat_one,go_sem]
   repeat' first
    |(refine qj ( .str []) ?_;simp (disch:=omega) only[go_sem])
    |(refine cA (c180) flk ?_;simp (disch:=omega) only[q3,go_sem])
    |(apply qd;exact rvk;simp only[go_sem];exact qi)
    |with_reducible first|intro _|apply aiA
   all_goals try exact clz
  have q3:(1≤v)=True:=eqt g3
  by_cases g4:v≤64
  case neg=>
   have q4:(v≤64)=False:=eqf g4;rw[hV (fun c=>by obtain⟨_,_,_,w,e,_,w2,_⟩:=hF c;cases e;exact g4 w2)];refine acO qck ?_;simp (disch:=omega) only[qee,k0,k1,k2,k3,k4,k5,k6,em,ea,eb,q1,q2,Int.toNat_zero,Int.toNat_one,go_sem]
   repeat' first
    |(refine qj ( .str []) ?_;simp (disch:=omega) only[go_sem])
    |(refine cA (c180) flk ?_;simp (disch:=omega) only[q3,q4,go_sem])
    |(apply qd;exact rvk;simp only[go_sem];exact qi)
    |with_reducible apply aiA
   all_goals try exact clz
  have q4:(v≤64)=True:=eqt g4
  by_cases g5:s=91::(t++ [93])
  ·have q5:(s=91::(t++ [93]))=True:=eqt g5;have htl:t.length≤9:=by
    obtain⟨n,rfl⟩: ∃n:Nat,v=n:=⟨v.toNat,om⟩
    rw[ht];exact qgx om
   rw[hM g3 g4 (by rw[←ht];exact g5)];refine acO qck ?_;simp (disch:=omega) only[qee,k0,k1,k2,k3,k4,k5,k6,em,ea,eb,q1,q2,Int.toNat_zero,Int.toNat_one,go_sem]
   repeat' first
    |((first|refine cA (c180) ?_ ?_|refine cG (fun e=>c181) ?_ ?_);exact flk;simp (disch:=omega) only[q3,q4,q5,go_sem])
    |(apply qd;exact rvk;simp only[go_sem];exact qi)
    |with_reducible apply aiA
   all_goals try exact clz
  ·have q5:(s=91::(t++ [93]))=False:=eqf g5;have htl:t.length≤9:=by
    obtain⟨n,rfl⟩: ∃n:Nat,v=n:=⟨v.toNat,om⟩
    rw[ht];exact qgx om
   rw[hV (fun c=>by obtain⟨_,_,_,w,e,_,_,w3⟩:=hF c;cases e;exact g5 (by rw[ht];exact w3))];refine acO qck ?_;simp (disch:=omega) only[qee,k0,k1,k2,k3,k4,k5,k6,em,ea,eb,q1,q2,Int.toNat_zero,Int.toNat_one,go_sem]
   repeat' first
    |((first|refine cA (c180) ?_ ?_|refine cG (fun e=>c181) ?_ ?_);exact flk;simp (disch:=omega) only[q3,q4,q5,go_sem])
    |(apply qd;exact rvk;simp only[go_sem];exact qi)
    |with_reducible apply aiA
   all_goals try exact clz
 all_goals
  rw[hA]at c180 hF;simp only at c180;rw[hV (fun c=>by obtain⟨_,_,_,w,e,_⟩:=hF c;cases e)];refine acO qck ?_;simp (disch:=omega) only[qee,k0,k1,k2,k3,k4,k5,k6,em,ea,eb,q1,q2,Int.toNat_zero,Int.toNat_one,go_sem]
  repeat' first
   |(refine qj ( .str []) ?_;simp (disch:=omega) only[go_sem])
   |(refine cA (c180) flk ?_;simp (disch:=omega) only[go_sem])
   |(apply qd;exact rvk;simp only[go_sem];exact qi)
   |with_reducible first|intro _|apply aiA
  all_goals try exact clz
theorem qB6: ∀f:Nat,f<32→qoY .i64 (f:Int) 2=if f.testBit 1 then 2 else 0:=by decide+kernel
theorem qB8: ∀f:Nat,f<32→qoY .i64 (f:Int) 8=if f.testBit 3 then 8 else 0:=by decide+kernel
theorem qwO: ∀f:Nat,f<32→qoY .i64 (f:Int) 10=(if f.testBit 1 then 2 else 0)+if f.testBit 3 then 8 else 0:=by decide+kernel
theorem qEC(t:Tk)(f:Nat)(h:List AObj)(hf:t.flags=f)(hf2:f<32):ACalls Tryz.prog 209 [.agg (tkC t)] h (.bool (!qiS t.flags&& !mkB t.flags)) h:=by
 have e1:=qwO f hf2;have eg:qiS t.flags=f.testBit 1:=by unfold qiS;rw[hf,itn]
 have ek:mkB t.flags=f.testBit 3:=by unfold mkB;rw[hf,itn]
 rw[eg,ek];cases g1:f.testBit 1<;>cases g2:f.testBit 3<;>rw[g1,g2]at e1<;>simp only[Bool.false_eq_true,if_false,if_true,Int.add_zero,Int.zero_add]at e1
 all_goals
  refine acO qza ?_;simp (disch:=omega) only[qxA,tkC,hf,e1,go_sem]
  repeat' first
   |(apply qb;exact rvk;simp only[go_sem];exact qi)
structure qsa (t:Tk):Prop where
 tx:t.text.length≤1000000000
 nm:t.norm.length≤1000000000
 pg:t.page.length≤1000000000
 na:t.name.length≤1000000000
theorem tkP(t:Tk)(h:List AObj)(hz:qsa t)(hp:kQ SG h):ACalls Tryz.prog 163 [.agg (tkC t)] h (.int .i64 (tkE t)) h:=by
 obtain⟨R,hR⟩: ∃R,R=tkE t:=⟨_,rfl⟩
 rw[←hR];unfold tkE at hR
 by_cases g1:t.flags<0
 ·have k1:(t.flags<0)=True:=eqt g1;rw[ipo (.inl g1)]at hR;rw[hR];refine acO jo ?_;simp (disch:=omega) only[kO,tkC,go_sem]
  repeat' first
   |(apply qb;exact rvk;simp only[go_sem];first|exact qi|apply qh)
   |with_reducible first|intro _|apply aiA
  all_goals try exact clz
 have k1:(t.flags<0)=False:=eqf g1
 by_cases g2:31<t.flags
 ·have k2:((31:Int)<t.flags)=True:=eqt g2;rw[ipo (.inr g2)]at hR;rw[hR];refine acO jo ?_;simp (disch:=omega) only[kO,tkC,go_sem]
  repeat' first
   |(apply qb;exact rvk;simp only[go_sem];first|exact qi|apply qh)
   |with_reducible first|intro _|apply aiA
  all_goals try exact clz
 have k2:((31:Int)<t.flags)=False:=eqf g2;rw[ine om]at hR;obtain⟨f,hf⟩: ∃f:Nat,t.flags=(f:Int):=⟨t.flags.toNat,om⟩
 have hf2:f<32:=by omega
 have e2:=qB6 f hf2;have e8:=qB8 f hf2;have eg:qiS t.flags=f.testBit 1:=by unfold qiS;rw[hf,itn]
 have ek:mkB t.flags=f.testBit 3:=by unfold mkB;rw[hf,itn]
 have cI:=fun h=>qEC t f h hf hf2
 have cP:=fun l=>qDq t.page (h++l) hz.pg
 have cM:=fun l=>qDq t.name (h++l) hz.na
 have hG:=fun l=>qFc t.text (h++l) hz.tx (hp.app l)
 have cK:=fun l=>qFt t.text (h++l) hz.tx
 have cW:=fun l=>t88 t.text (h++l) hz.tx
 have cN:=fun l=>qDr t.norm (h++l) hz.nm
 unfold txB at hR;rw[eg,ek]at hR cI;obtain⟨bp,hbp⟩: ∃b,b=qmE t.page:=⟨_,rfl⟩
 obtain⟨bm,hbm⟩: ∃b,b=qmE t.name:=⟨_,rfl⟩
 obtain⟨bg,hbg⟩: ∃b,b=qfu t.text:=⟨_,rfl⟩
 obtain⟨bk,hbk⟩: ∃b,b=qwz t.text:=⟨_,rfl⟩
 obtain⟨bw,hbw⟩: ∃b,b=kE t.text:=⟨_,rfl⟩
 obtain⟨bn,hbn⟩: ∃b,b=qwB t.norm:=⟨_,rfl⟩
 rw[←hbp,←hbm,←hbg,←hbk,←hbw,←hbn]at hR;simp only[←hbp]at cP;simp only[←hbm]at cM;simp only[←hbg]at hG;simp only[←hbk]at cK;simp only[←hbw]at cW;simp only[←hbn]at cN;unfold tkC at cI;rw[hf]at cI k1 k2;cases ga:f.testBit 1<;>cases gb:f.testBit 3<;>rw[ga]at e2 hR cI<;>rw[gb]at e8 hR cI<;>simp only[Bool.false_eq_true,if_true,if_false,and_true,and_false,Bool.not_false,Bool.not_true,Bool.and_false,Bool.and_true]at e2 e8 hR cI
 ·cases bw with
  |false=>
   rw[Bool.false_and,ipo rfl]at hR;rw[hR];refine acO jo ?_;simp (disch:=omega) only[kO,tkC,hf,k1,k2,e2,e8,go_sem]
   repeat' first
    |(refine qy (cW _) ?_;simp (disch:=omega) only[go_sem])
    |(apply qb;exact rvk;simp only[go_sem];exact qi)
  |true=>
  rw[Bool.true_and]at hR;cases bn with
  |false=>
   rw[ipo rfl]at hR;rw[hR];refine acO jo ?_;simp (disch:=omega) only[kO,tkC,hf,k1,k2,e2,e8,go_sem]
   repeat' first
    |(refine qy (cW _) ?_;simp (disch:=omega) only[go_sem])
    |((first|refine cA (cI _) ?_ ?_|refine cG (fun e=>cN _) ?_ ?_);exact flk;simp (disch:=omega) only[go_sem])
    |(apply qb;exact rvk;simp only[go_sem];exact qi)
  |true=>
   rw[ine (by simp)]at hR
   by_cases g4:t.line<0
   ·have k4:(t.line<0)=True:=eqt g4;rw[ipo g4]at hR;rw[hR];refine acO jo ?_;simp (disch:=omega) only[kO,tkC,hf,k1,k2,e2,e8,go_sem]
    repeat' first
     |(refine qy (cW _) ?_;simp (disch:=omega) only[k4,go_sem])
     |((first|refine cA (cI _) ?_ ?_|refine cG (fun e=>cN _) ?_ ?_);exact flk;simp (disch:=omega) only[k4,go_sem])
     |(apply qb;exact rvk;simp only[go_sem];first|exact qi|apply qh)
     |with_reducible first|intro _|apply aiA
    all_goals try exact clz
   have k4:(t.line<0)=False:=eqf g4;rw[ine g4]at hR;cases bp with
   |false=>
    rw[ipo (.inl rfl)]at hR;rw[hR];refine acO jo ?_;simp (disch:=omega) only[kO,tkC,hf,k1,k2,e2,e8,go_sem]
    repeat' first
     |(refine qy (cW _) ?_;simp (disch:=omega) only[k4,go_sem])
     |(refine qj ( .bool false) ?_;simp (disch:=omega) only[go_sem])
     |((first|refine cA (cI _) ?_ ?_|refine cG (fun e=>cN _) ?_ ?_|refine cA (cP _) ?_ ?_);exact flk;simp (disch:=omega) only[k4,go_sem])
     |(apply qb;exact rvk;simp only[go_sem];first|exact qi|apply qh)
     |with_reducible first|intro _|apply aiA
    all_goals try exact clz
   |true=>
   cases bm with
   |false=>
    rw[ipo (.inr rfl)]at hR;rw[hR];refine acO jo ?_;simp (disch:=omega) only[kO,tkC,hf,k1,k2,e2,e8,go_sem]
    repeat' first
     |(refine qy (cW _) ?_;simp (disch:=omega) only[k4,go_sem])
     |((first|refine cA (cI _) ?_ ?_|refine cG (fun e=>cN _) ?_ ?_|refine cA (cP _) ?_ ?_|refine cG (fun e=>cM _) ?_ ?_);exact flk;simp (disch:=omega) only[k4,go_sem])
     |(apply qb;exact rvk;simp only[go_sem];first|exact qi|apply qh)
     |with_reducible first|intro _|apply aiA
    all_goals try exact clz
   |true=>
    rw[ine (by simp)]at hR;rw[hR];refine acO jo ?_;simp (disch:=omega) only[kO,tkC,hf,k1,k2,e2,e8,go_sem]
    repeat' first
     |(refine qy (cW _) ?_;simp (disch:=omega) only[k4,go_sem])
     |((first|refine cA (cI _) ?_ ?_|refine cG (fun e=>cN _) ?_ ?_|refine cA (cP _) ?_ ?_|refine cG (fun e=>cM _) ?_ ?_);exact flk;simp (disch:=omega) only[k4,go_sem])
     |(apply qb;exact rvk;simp only[go_sem];first|exact qi|apply qh)
     |with_reducible first|intro _|apply aiA
    all_goals try exact clz
 ·cases bk with
  |false=>
   rw[Bool.false_and,ipo rfl]at hR;rw[hR];refine acO jo ?_;simp (disch:=omega) only[kO,tkC,hf,k1,k2,e2,e8,go_sem]
   repeat' first
    |(refine qy (cK _) ?_;simp (disch:=omega) only[go_sem])
    |(apply qb;exact rvk;simp only[go_sem];first|exact qi|apply qh)
    |with_reducible first|intro _|apply aiA
   all_goals try exact clz
  |true=>
  rw[Bool.true_and]at hR
  by_cases g3:t.norm=t.text
  ·have k3:(t.norm=t.text)=True:=eqt g3;rw[dqt g3,ine (by simp)]at hR
   by_cases g4:t.line<0
   ·have k4:(t.line<0)=True:=eqt g4;rw[ipo g4]at hR;rw[hR];refine acO jo ?_;simp (disch:=omega) only[kO,tkC,hf,k1,k2,e2,e8,go_sem]
    repeat' first
     |(refine qy (cK _) ?_;simp (disch:=omega) only[k4,go_sem])
     |(refine qj ( .bool false) ?_;simp (disch:=omega) only[k4,go_sem])
     |(refine cA (cI _) flk ?_;simp (disch:=omega) only[k3,k4,go_sem])
     |(apply qb;exact rvk;simp only[go_sem];first|exact qi|apply qh)
     |with_reducible first|intro _|apply aiA
    all_goals try exact clz
   have k4:(t.line<0)=False:=eqf g4;rw[ine g4]at hR;cases bp with
   |false=>
    rw[ipo (.inl rfl)]at hR;rw[hR];refine acO jo ?_;simp (disch:=omega) only[kO,tkC,hf,k1,k2,e2,e8,go_sem]
    repeat' first
     |(refine qy (cK _) ?_;simp (disch:=omega) only[k4,go_sem])
     |(refine qj ( .bool false) ?_;simp (disch:=omega) only[k4,go_sem])
     |((first|refine cA (cI _) ?_ ?_|refine cA (cP _) ?_ ?_);exact flk;simp (disch:=omega) only[k3,k4,go_sem])
     |(apply qb;exact rvk;simp only[go_sem];first|exact qi|apply qh)
     |with_reducible first|intro _|apply aiA
    all_goals try exact clz
   |true=>
   cases bm with
   |false=>
    rw[ipo (.inr rfl)]at hR;rw[hR];refine acO jo ?_;simp (disch:=omega) only[kO,tkC,hf,k1,k2,e2,e8,go_sem]
    repeat' first
     |(refine qy (cK _) ?_;simp (disch:=omega) only[k4,go_sem])
     |(refine qj ( .bool false) ?_;simp (disch:=omega) only[k4,go_sem])
     |((first|refine cA (cI _) ?_ ?_|refine cA (cP _) ?_ ?_|refine cG (fun e=>cM _) ?_ ?_);exact flk;simp (disch:=omega) only[k3,k4,go_sem])
     |(apply qb;exact rvk;simp only[go_sem];first|exact qi|apply qh)
     |with_reducible first|intro _|apply aiA
    all_goals try exact clz
   |true=>
    rw[ine (by simp)]at hR;rw[hR];refine acO jo ?_;simp (disch:=omega) only[kO,tkC,hf,k1,k2,e2,e8,go_sem]
    repeat' first
     |(refine qy (cK _) ?_;simp (disch:=omega) only[k4,go_sem])
     |(refine qj ( .bool false) ?_;simp (disch:=omega) only[k4,go_sem])
     |((first|refine cA (cI _) ?_ ?_|refine cA (cP _) ?_ ?_|refine cG (fun e=>cM _) ?_ ?_);exact flk;simp (disch:=omega) only[k3,k4,go_sem])
     |(apply qb;exact rvk;simp only[go_sem];first|exact qi|apply qh)
     |with_reducible first|intro _|apply aiA
    all_goals try exact clz
  ·have k3:(t.norm=t.text)=False:=eqf g3;rw[dqf g3,ipo rfl]at hR;rw[hR];refine acO jo ?_;simp (disch:=omega) only[kO,tkC,hf,k1,k2,e2,e8,go_sem]
   repeat' first
    |(refine qy (cK _) ?_;simp (disch:=omega) only[go_sem])
    |(refine qj ( .bool false) ?_;simp (disch:=omega) only[go_sem])
    |(refine cA (cI _) flk ?_;simp (disch:=omega) only[k3,go_sem])
    |(apply qb;exact rvk;simp only[go_sem];first|exact qi|apply qh)
    |with_reducible first|intro _|apply aiA
   all_goals try exact clz
 ·cases bg with
  |false=>
   rw[Bool.false_and,ipo rfl]at hR;rw[hR];refine acO jo ?_;simp (disch:=omega) only[kO,tkC,hf,k1,k2,e2,e8,go_sem]
   repeat' first
    |(refine qy (hG _) ?_;simp (disch:=omega) only[go_sem])
    |(apply qb;exact rvk;simp only[go_sem];exact qi)
    |with_reducible first|intro _|apply aiA
   all_goals try exact clz
  |true=>
  rw[Bool.true_and]at hR
  by_cases g3:t.norm=t.text
  ·have k3:(t.norm=t.text)=True:=eqt g3;rw[dqt g3,ine (by simp)]at hR
   by_cases g4:t.line<0
   ·have k4:(t.line<0)=True:=eqt g4;rw[ipo g4]at hR;rw[hR];refine acO jo ?_;simp (disch:=omega) only[kO,tkC,hf,k1,k2,e2,e8,go_sem]
    repeat' first
     |(refine qy (hG _) ?_;simp (disch:=omega) only[k4,go_sem])
     |(refine qj ( .bool false) ?_;simp (disch:=omega) only[k4,go_sem])
     |(refine cA (cI _) flk ?_;simp (disch:=omega) only[k3,k4,go_sem])
     |(apply qb;exact rvk;simp only[go_sem];exact qi)
     |with_reducible first|intro _|apply aiA
    all_goals try exact clz
   have k4:(t.line<0)=False:=eqf g4;rw[ine g4]at hR;cases bp with
   |false=>
    rw[ipo (.inl rfl)]at hR;rw[hR];refine acO jo ?_;simp (disch:=omega) only[kO,tkC,hf,k1,k2,e2,e8,go_sem]
    repeat' first
     |(refine qy (hG _) ?_;simp (disch:=omega) only[k4,go_sem])
     |(refine qj ( .bool false) ?_;simp (disch:=omega) only[k4,go_sem])
     |((first|refine cA (cI _) ?_ ?_|refine cA (cP _) ?_ ?_);exact flk;simp (disch:=omega) only[k3,k4,go_sem])
     |(apply qb;exact rvk;simp only[go_sem];exact qi)
     |with_reducible first|intro _|apply aiA
    all_goals try exact clz
   |true=>
   cases bm with
   |false=>
    rw[ipo (.inr rfl)]at hR;rw[hR];refine acO jo ?_;simp (disch:=omega) only[kO,tkC,hf,k1,k2,e2,e8,go_sem]
    repeat' first
     |(refine qy (hG _) ?_;simp (disch:=omega) only[k4,go_sem])
     |(refine qj ( .bool false) ?_;simp (disch:=omega) only[k4,go_sem])
     |((first|refine cA (cI _) ?_ ?_|refine cA (cP _) ?_ ?_|refine cG (fun e=>cM _) ?_ ?_);exact flk;simp (disch:=omega) only[k3,k4,go_sem])
     |(apply qb;exact rvk;simp only[go_sem];exact qi)
     |with_reducible first|intro _|apply aiA
    all_goals try exact clz
   |true=>
    rw[ine (by simp)]at hR;rw[hR];refine acO jo ?_;simp (disch:=omega) only[kO,tkC,hf,k1,k2,e2,e8,go_sem]
    repeat' first
     |(refine qy (hG _) ?_;simp (disch:=omega) only[k4,go_sem])
     |(refine qj ( .bool false) ?_;simp (disch:=omega) only[k4,go_sem])
     |((first|refine cA (cI _) ?_ ?_|refine cA (cP _) ?_ ?_|refine cG (fun e=>cM _) ?_ ?_);exact flk;simp (disch:=omega) only[k3,k4,go_sem])
     |(apply qb;exact rvk;simp only[go_sem];exact qi)
     |with_reducible first|intro _|apply aiA
    all_goals try exact clz
  ·have k3:(t.norm=t.text)=False:=eqf g3;rw[dqf g3,ipo rfl]at hR;rw[hR];refine acO jo ?_;simp (disch:=omega) only[kO,tkC,hf,k1,k2,e2,e8,go_sem]
   repeat' first
    |(refine qy (hG _) ?_;simp (disch:=omega) only[go_sem])
    |(refine qj ( .bool false) ?_;simp (disch:=omega) only[go_sem])
    |(refine cA (cI _) flk ?_;simp (disch:=omega) only[k3,go_sem])
    |(apply qb;exact rvk;simp only[go_sem];exact qi)
    |with_reducible first|intro _|apply aiA
   all_goals try exact clz
 ·rw[hR];refine acO jo ?_;simp (disch:=omega) only[kO,tkC,hf,k1,k2,e2,e8,go_sem]
  repeat' first
   |(apply qb;exact rvk;simp only[go_sem];exact qi)
   |with_reducible first|intro _|apply aiA
  all_goals try exact clz
end RC
end
section
open Go Go.Proofs AF
def qaH:List Nat:= []
theorem qCV:qM Tryz.prog 33 9 0 [RV.tmp 4] (cCT 91):=fi Tryz.f33 [] qaH []
theorem qyy:qM Tryz.prog 104 19 0 [RV.tmp 4] (cIF 2 (some 2)):=fi Tryz.f104 [] qaH []
theorem qzS:qM Tryz.prog 91 19 0 [RV.tmp 4] (cIF 3 (some 3)):=fi Tryz.f91 [] qaH []
theorem qsm:qM Tryz.prog 161 9 0 [RV.tmp 4] (cCT 206):=fi Tryz.f161 [] qaH []
theorem qsr:qM Tryz.prog 206 19 0 [RV.tmp 4] (cIF 6 (some 6)):=fi Tryz.f206 [] qaH []
theorem qzd:qM Tryz.prog 212 9 0 [RV.tmp 4] (cCT 244):=fi Tryz.f212 [] qaH []
def qtu:C:=
 ((C.ops [MC 6 (.bool false)]).seq (((C.ops [MV 10 0,O1 11 .len 10,MV 12 1,O1 13 .len 12,BI 14 .neq 11 13]).seq (C.cond (.t 14) ((C.ops [MC 6 (.bool false)]).seq C.ret)
 C.skip)).seq (((C.ops [MV 15 0,O1 16 .len 15,MC 17 (i6 0)]).seq (C.block 0 ((C.ops [BI 18 .lss 17 16]).seq ((C.cond (.t 18) C.skip (C.exit 0)).seq ((C.block 1 ((C.ops [MV 19 17,
 O2 20 (.idxA 2) 15 17,O1 21 (.load (some 2)) 20,⟨some 8,none,.alloc 0 87 [.nl,.nl],[]⟩,MV 7 19,ST 2 8 21]).seq ((C.ops [MV 22 1,MV 23 7,O2 24 (.idxA 2) 22 23,O1 25
 (.load (some 2)) 24,⟨some 9,none,.alloc 1 87 [.nl,.nl],[]⟩,ST 2 9 25]).seq ((C.ops [MV 26 2,O1 27 (.load (some 2)) 8,O1 28 (.load (some 2)) 9,ON 29 .callv [.t 26,.t 27,
 .t 28],O1 30 (.un UnOp.not) 29]).seq (C.cond (.t 30) ((C.ops [MC 6 (.bool false)]).seq C.ret) C.skip))))).seq (C.ops [BC 31 .add 17 (i6 1),MV 17 31])))).loop)).seq ((C.ops [MC 6
 (.bool true)]).seq
 C.ret))))
theorem qst:qM Tryz.prog 214 32 2 [RV.tmp 6] qtu:=fi Tryz.f214 [8,9] qaH []
theorem qzo:qM Tryz.prog 244 19 0 [RV.tmp 4] (cIF 1 none):=fi Tryz.f244 [] qaH []
end
