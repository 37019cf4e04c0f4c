import Derived.Test.YtgoandblgcjleaaGreatDoorK8
import Derived.Test.YtgoandblgcjleaaGreatDoorK3
import Derived.Test.YtgoandblgcjleaaGreatDoorK5
import Derived.Test.YtgoandblgcjleaaGreatDoorProg
import Derived.Test.YtgoandblgcjleaaGreatDoorK4
import Derived.Below
import Derived.Test.YtgoandblgcjleaaGreatDoorK1
import Derived.Lib.AppendIntMem
import Derived.Stop.LaidErr
import Derived.Lib.ItoaLen
set_option linter.all false
set_option linter.unusedSimpArgs false
set_option linter.unusedVariables false
set_option linter.unusedSectionVars false
set_option maxRecDepth 100000
section
open Go Go.Proofs AF HY
namespace HY
theorem qEe(c:UInt8)(h:List AObj):ACalls Tryz.prog 290 [.int .u8 (c.toNat:Int)] h (.bool (spc c)) h:=by
 refine qv qyQ (by simp) ?_;simp only[List.length_cons,List.length_nil,Nat.reduceAdd,Nat.reduceSub,List.replicate,List.cons_append,List.nil_append,List.append_nil];simp (disch:=omega) only[qxe,go_sem]
 repeat' first
  |(refine qz (qdp c _) ?_ ?_;exact flk;simp (disch:=omega) only[go_sem])
  |(apply qd;exact rvk;simp only[go_sem];exact qj)
def qat(s:List UInt8):AV:= .sl s.length fun i=> [.int .u8 ((s.getD i 0).toNat:Int)]
def qck(p:UInt8→Bool):List UInt8→Nat→Int
 | [],_=> -1
 |c::r,i=>if p c=true then i else qck p r (i+1)
theorem qlq(p:UInt8→Bool): ∀(s:List UInt8) (i:Nat),(0≤qck p s i↔s.any p=true)∧ -1≤qck p s i:=by
 intro s
 induction s with
 |nil=>intro i;simp[qck]
 |cons c r ih=>
  intro i
  by_cases hc:p c=true
  ·have e:qck p (c::r) i=i:=ipo hc;rw[e,List.any_cons,hc];simp
   try omega
  ·have e:qck p (c::r) i=qck p r (i+1):=ine hc;rw[e,List.any_cons];have hc':p c=false:=by simpa using hc
   rw[hc',Bool.false_or];exact ih (i+1)
theorem qlp(p:UInt8→Bool)(s:List UInt8)(i:Nat):decide (0≤qck p s i)=s.any p:=by
 rw[Bool.eq_iff_iff,decide_eq_true_eq];exact (qlq p s i).1
theorem qEh(s:List UInt8)(p:UInt8→Bool)(F:Nat)(h:List AObj)(hs:s.length≤1000000000)(hp: ∀(c:UInt8) (h:List AObj),ACalls Tryz.prog F [.int .u8 (c.toNat:Int)] h (.bool (p c)) h):ACalls Tryz.prog 308 [qat s,.fn (.func F) [] []] h (.int .i64 (qck p s 0)) h:=by
 refine qv qyW (by simp) ?_;simp only[List.length_cons,List.length_nil,Nat.reduceAdd,Nat.reduceSub,List.replicate,List.cons_append,List.nil_append,List.append_nil];simp (disch:=omega) only[qxj,qat,go_sem];refine qp (T:=fun i:Nat=>qQ 19 [(0,qat s),(1,.fn (.func F) [] []),(6,qat s),(7,.int .i64 s.length),(8,.int .i64 i)]) (H:=fun _=>h) (inv:=fun i=>i≤s.length∧qck p s 0=qck p (s.drop i) i) (m:=fun i=>s.length-i) 0 ⟨by omega,by simp⟩ (Wk.temps ?_) ?_
 ·(simp only[qat,qQ,List.foldl,go_sem,qi,qe,qa,qh];try (repeat' first|(with_reducible apply aiA)|(apply qg;omega)|(apply qf;rfl)|exact qj))
 ·rintro i ⟨i1,i2⟩ K hK;rw[i2]
  by_cases hi:i<s.length
  ·have e:s.drop i=s.getD i 0::s.drop (i+1):=by rw[List.drop_eq_getElem_cons hi];simp[gdqA,hi]
   rw[e]at i2 ⊢;simp only[qck]at i2 ⊢;have hpc:=fun h=>hp (s.getD i 0) h
   cases hb:p (s.getD i 0)with
   |true=>
    rw[hb]at hpc;simp (disch:=omega) only[qQ,List.foldl,qat,go_sem]
    repeat' first
     |(refine qw (hpc _) ?_;simp (disch:=omega) only[go_sem,qo])
     |(apply qd;exact rvk;simp only[go_sem];first|exact qj|apply qg)
     |with_reducible first|intro _|apply aiA
    all_goals try exact clz
   |false=>
    rw[hb]at hpc i2;simp (disch:=omega) only[qQ,List.foldl,qat,go_sem]
    repeat' first
     |(refine qw (hpc _) ?_;simp (disch:=omega) only[go_sem,qo])
     |(apply qd;exact rvk;simp only[go_sem];apply qg)
     |with_reducible first|intro _|apply aiA
    all_goals try exact clz
    refine hK _ _ (i+1) ⟨by omega,by rw[i2];simp⟩ (by omega) (Wk.temps ?_)
    (simp only[qat,qQ,List.foldl,go_sem,qi,qe,qa,qh];try (repeat' first|(with_reducible apply aiA)|(apply qg;omega)|(apply qf;rfl)|exact qj))
  ·have e:i=s.length:=by omega
   subst e;rw[List.drop_length];simp (disch:=omega) only[qQ,List.foldl,qat,go_sem]
   repeat' first
    |(apply qd;exact rvk;simp only[go_sem];exact qj)
    |with_reducible first|intro _|apply aiA
   all_goals try exact clz
theorem qEd(s:List UInt8)(p:UInt8→Bool)(F:Nat)(h:List AObj)(hs:s.length≤1000000000)(hp: ∀(c:UInt8) (h:List AObj),ACalls Tryz.prog F [.int .u8 (c.toNat:Int)] h (.bool (p c)) h):ACalls Tryz.prog 289 [qat s,.fn (.func F) [] []] h (.bool (s.any p)) h:=by
 rw[←qlp p s 0];refine qv qyP (by simp) ?_;simp only[List.length_cons,List.length_nil,Nat.reduceAdd,Nat.reduceSub,List.replicate,List.cons_append,List.nil_append,List.append_nil];simp (disch:=omega) only[qxd,qat,go_sem]
 repeat' first
  |(refine qz (qEh s p F _ hs hp) ?_ ?_;exact flk;simp (disch:=omega) only[go_sem])
  |(apply qd;exact rvk;simp only[go_sem];exact qj)
theorem t88(s:List UInt8)(h:List AObj)(hs:s.length≤1000000000):ACalls Tryz.prog 247 [.str s] h (.bool (qak s)) h:=by
 obtain⟨c,hc⟩: ∃c,c=qaU s:=⟨_,rfl⟩
 have h104: ∀h:List AObj,ACalls Tryz.prog 288 [.str s] h (.int .i64 c) h:=fun h=>by rw[hc];exact qEc s h hs
 have hw:qak s=(decide (0<s.length)&&decide (s.length≤64)&&decide (c=0)&&(decide (zG (ch s 0)=1)||decide (zG (ch s 0)=3))&& !(s.any spc)):=by rw[hc];rfl
 rw[hw]
 by_cases g1:0<s.length
 ·have k1:(s= [])=False:=eqf (by intro e;rw[e]at g1;simp at g1)
  by_cases g2:s.length≤64
  ·have k2:(64<(s.length:Int))=False:=eqf (by omega)
   by_cases g3:c=0
   ·refine qv qhb (by simp) ?_;simp only[List.length_cons,List.length_nil,Nat.reduceAdd,Nat.reduceSub,List.replicate,List.cons_append,List.nil_append,List.append_nil];simp (disch:=omega) only[qkF,k1,k2,g3,go_sem]
    repeat' first
     |((first|refine qz (qdp _ _) ?_ ?_|refine qz (qEd s spc 290 _ hs qEe) ?_ ?_);exact flk;simp (disch:=omega) only[go_sem])
     |(refine qK (fun e=>⟨?_,h104 _⟩) ?_;exact flk;simp (disch:=omega) only[g3,jE,go_sem])
     |(apply qd;exact rvk;simp only[go_sem];apply qf)
     |with_reducible first|intro _|apply aiA
    all_goals try exact clz
    all_goals (generalize s.any spc=b;grind)
   ·refine qv qhb (by simp) ?_;simp only[List.length_cons,List.length_nil,Nat.reduceAdd,Nat.reduceSub,List.replicate,List.cons_append,List.nil_append,List.append_nil];simp (disch:=omega) only[qkF,k1,k2,go_sem]
    repeat' first
     |(refine qK (fun e=>⟨?_,h104 _⟩) ?_;exact flk;simp (disch:=omega) only[g3,jE,go_sem])
     |(apply qd;exact rvk;simp only[go_sem];exact qj)
    all_goals (generalize s.any spc=b;grind)
  ·have k2:(64<(s.length:Int))=True:=eqt (by omega);refine qv qhb (by simp) ?_;simp only[List.length_cons,List.length_nil,Nat.reduceAdd,Nat.reduceSub,List.replicate,List.cons_append,List.nil_append,List.append_nil];simp (disch:=omega) only[qkF,k1,k2,go_sem]
   repeat' first
    |(refine qk ((.int .i64 0)) ?_;simp (disch:=omega) only[go_sem])
    |(apply qd;exact rvk;simp only[go_sem];apply qf)
   all_goals (generalize s.any spc=b;grind)
 ·have e:s= []:=List.eq_nil_of_length_eq_zero (by omega);subst e;refine qv qhb (by simp) ?_;simp only[List.length_cons,List.length_nil,Nat.reduceAdd,Nat.reduceSub,List.replicate,List.cons_append,List.nil_append,List.append_nil];simp (disch:=omega) only[qkF,go_sem]
  repeat' first
   |(refine qk ((.int .i64 0)) ?_;simp (disch:=omega) only[go_sem])
   |(apply qd;exact rvk;simp only[go_sem];exact qj)
  all_goals (generalize List.any _ spc=b;grind)
end HY
end
section
open Go Go.Proofs AF
def qJ:List Nat:= [132,109,174,220,68]
theorem qBv:qE Tryz.prog 53 26 0 [RV.tmp 4] cEQ:=fi Tryz.f53 [] qJ []
theorem qBq:qE Tryz.prog 40 26 0 [RV.tmp 4] cEQ:=fi Tryz.f40 [] qJ []
def qCG:C:=
 ((C.ops [MC 4 (.bool false)]).seq (((C.ops [MV 6 0,O1 7 .len 6,MV 8 1,O1 9 .len 8,BI 10 .neq 7 9]).seq (C.cond (.t 10) ((C.ops [MC 4 (.bool false)]).seq C.ret) C.skip)).seq
 (((C.ops [MC 5 (i6 0)]).seq (C.block 0 (((C.ops [MV 11 5,MV 12 0,O1 13 .len 12,BI 14 .lss 11 13]).seq (C.cond (.t 14) C.skip (C.exit 0))).seq ((C.block 1 ((C.ops [MV 17 0,MV 18
 5,O2 19 (.idxA 6) 17 18,O1 20 (.load (some 6)) 19,MV 21 1,MV 22 5,O2 23 (.idxA 6) 21 22,O1 24 (.load (some 6)) 23,O2 25 (.call 30 true) 20 24,O1 26 (.un UnOp.not) 25]).seq
 (C.cond (.t 26) ((C.ops [MC 4 (.bool false)]).seq C.ret) C.skip))).seq (C.ops [MV 15 5,BC 16 .add 15 (i6 1),MV 5 16]))).loop)).seq ((C.ops [MC 4 (.bool true)]).seq
 C.ret))))
theorem qBo:qE Tryz.prog 29 27 0 [RV.tmp 4] qCG:=fi Tryz.f29 [] qJ []
def qsE:C:=
 ((C.ops [MC 4 (i6 0)]).seq (((C.ops [MV 10 0,O1 11 .len 10,BC 12 .gtr 11 (i6 32)]).seq (C.cond (.t 12) ((C.ops [MC 4 (i6 4)]).seq C.ret) C.skip)).seq (((C.ops [MV 13 0,O1 14
 .len 13,MC 15 (i6 0)]).seq (C.block 0 ((C.ops [BI 16 .lss 15 14]).seq ((C.cond (.t 16) C.skip (C.exit 0)).seq ((C.block 1 ((C.ops [MV 17 15,O2 18 (.idxA 1) 13 15,LD 19 18,MV 5
 17,MV 6 19]).seq (((C.ops [MV 20 6,O1 21 (.call 185 true) 20,O1 22 (.un UnOp.not) 21]).seq (C.cond (.t 22) ((C.ops [MC 4 (i6 14)]).seq C.ret) C.skip)).seq ((C.ops [MV 23 0,MV
 24 5,O2 25 (.slc 1 false true) 23 24,MV 26 6,O2 27 (.call 43 true) 25 26]).seq (C.cond (.t 27) ((C.ops [MC 4 (i6 7)]).seq C.ret) C.skip))))).seq (C.ops [BC 28 .add 15 (i6 1),MV
 15 28])))).loop)).seq (((C.ops [MV 29 1,O1 30 .len 29,BC 31 .gtr 30 (i6 16)]).seq (C.cond (.t 31) ((C.ops [MC 4 (i6 4)]).seq C.ret) C.skip)).seq (((C.ops [MV 32 1,O1 33 .len 32,
 MC 34 (i6 0)]).seq (C.block 2 ((C.ops [BI 35 .lss 34 33]).seq ((C.cond (.t 35) C.skip (C.exit 2)).seq ((C.block 3 ((C.ops [MV 36 34,O2 37 (.idxA 2) 32 34,O1 38 (.load (some 2))
 37,⟨some 8,none,.alloc 0 167 [.str [],.nl],[]⟩,MV 7 36,ST 2 8 38]).seq ((C.block 4 ((C.ops [O1 40 (.fldA 0) 8,LD 41 40,O1 42 (.call 186 true) 41,O1 43 (.un UnOp.not) 42,
 MV 39 43]).seq (C.cond (.t 39) ((C.ops [MC 4 (i6 14)]).seq C.ret) ((C.ops [MV 45 0,O1 46 (.fldA 0) 8,LD 47 46,O2 48 (.call 43 true) 45 47,MV 49 48,MG 50 49 false 1,MG 51 49
 false 7,P2 52 49 false (.slc 2 false true) 50 51,P1 53 49 false (.mkfn (Fn.func 188) 0) 8,P2 54 49 false (.call 187 true) 52 53,PT 55 49 54,MV 44 55]).seq (C.cond (.t 44)
 ((C.ops [MC 4 (i6 7)]).seq C.ret) ((C.ops [O1 57 (.fldA 1) 8,LD 58 57,O1 59 .len 58,BC 60 .eql 59 (i6 0),MV 56 60]).seq (C.cond (.t 56) ((C.ops [MC 4 (i6 5)]).seq C.ret)
 C.skip))))))).seq ((C.ops [O1 61 (.fldA 1) 8,LD 62 61,MV 63 0,O1 64 .len 63,O2 65 (.call 189 true) 62 64,MV 9 65]).seq ((C.ops [MV 66 9,BC 67 .neq 66 (i6 0)]).seq (C.cond (.t
 67) ((C.ops [MV 68 9,MV 4 68]).seq C.ret) C.skip)))))).seq (C.ops [BC 69 .add 34 (i6 1),MV 34 69])))).loop)).seq ((C.ops [MC 4 (i6 0)]).seq
 C.ret))))))
theorem qrt:qE Tryz.prog 122 70 1 [RV.tmp 4] qsE:=fi Tryz.f122 [8] qJ []
def qA4:C:=
 ((C.ops [ON 6 (.nilo 0 1 3) [],MC 7 (i6 0)]).seq (((C.ops [MV 13 0,MV 14 1,O2 15 (.call 122 true) 13 14,BC 16 .neq 15 (i6 0)]).seq (C.cond (.t 16) ((C.ops [ON 6 (.nilo 0 1 3)
 [],MC 7 (i6 1)]).seq C.ret) C.skip)).seq ((C.ops [MC 8 (.int .u64 0)]).seq (((C.ops [MV 17 2,O1 18 .len 17,MC 19 (i6 0)]).seq (C.block 0 ((C.ops [BI 20 .lss 19 18]).seq ((C.cond
 (.t 20) C.skip (C.exit 0)).seq ((C.block 1 ((C.ops [MV 21 19,O2 22 (.idxA 1) 17 19,LD 23 22,⟨some 10,none,.alloc 1 9 [.str []],[]⟩,MV 9 21,ST 1 10 23]).seq ((C.ops [MV 24
 0,LD 25 10,O2 26 (.call 117 true) 24 25,MV 11 26]).seq ((C.ops [MV 27 1,O1 28 (.mkfn (Fn.func 124) 0) 10,O2 29 (.call 123 true) 27 28,MV 12 29]).seq (C.block 2 ((C.ops [MV 39
 11,BC 40 .lss 39 (i6 0),MV 41 40,MG 42 41 true 12,PC 43 41 true (.bin .lss) 42 (i6 0),PF 44 41 43,MV 38 44]).seq (C.cond (.t 38) ((C.ops [ON 6 (.nilo 0 1 3) [],MC 7 (i6
 6)]).seq C.ret) ((C.ops [MV 46 2,MV 47 9,O2 48 (.slc 1 false true) 46 47,LD 49 10,O2 50 (.call 43 true) 48 49,MV 45 50]).seq (C.cond (.t 45) ((C.ops [ON 6 (.nilo 0 1 3) [],MC
 7 (i6 7)]).seq C.ret) ((C.ops [MV 52 11,BC 53 .geq 52 (i6 0),MV 51 53]).seq (C.cond (.t 51) (C.ops [MV 54 8,MV 55 11,ON 56 (.bin .shl) [.c (.int .u64 1),.t 55],BI 57 .or 54
 56,MV 8 57]) (C.ops [MV 30 8,MV 31 1,MV 32 12,O2 33 (.idxA 2) 31 32,O1 34 (.fldA 1) 33,LD 35 34,O1 36 (.call 125 true) 35,BI 37 .or 30 36,MV 8 37])))))))))))).seq (C.ops
 [BC 58 .add 19 (i6 1),MV 19 58])))).loop)).seq ((C.ops [MV 59 8,O1 60 (.call 126 true) 59,MV 6 60,MC 7 (i6 0)]).seq
 C.ret)))))
theorem qy1:qE Tryz.prog 50 61 2 [RV.tmp 6,RV.tmp 7] qA4:=fi Tryz.f50 [6,10] qJ []
def qCH:C:=
 ((C.ops [O1 2 (.box 0 58) 0,O1 3 (.box 1 58) 1,MC 4 (.bool false)]).seq (((C.ops [O1 6 (.fldA 0) 2,LD 7 6,O1 8 (.fldA 0) 3,LD 9 8,BI 10 .neq 7 9,MV 11 10,P1 12 11 false
 (.fldA 1) 2,P1 13 11 false (.load none) 12,P1 14 11 false (.fldA 1) 3,P1 15 11 false (.load none) 14,P2 16 11 false (.bin .neq) 13 15,PT 17 11 16,MV 18 17,P1 19 18 false
 (.fldA 2) 2,P1 20 18 false (.load none) 19,P1 21 18 false (.fldA 2) 3,P1 22 18 false (.load none) 21,P2 23 18 false (.bin .neq) 20 22,PT 24 18 23,MV 25 24,P1 26 25 false
 (.fldA 3) 2,P1 27 25 false (.load none) 26,P1 28 25 false (.fldA 3) 3,P1 29 25 false (.load none) 28,P2 30 25 false (.bool true) 27 29,PT 31 25 30,MV 32 31,P1 33 32 false
 (.fldA 4) 2,P1 34 32 false (.load none) 33,P1 35 32 false (.fldA 4) 3,P1 36 32 false (.load none) 35,P2 37 32 false (.call 103 true) 34 36,P1 38 32 false (.un UnOp.not) 37,PT
 39 32 38,MV 40 39,P1 41 40 false (.fldA 5) 2,P1 42 40 false (.load none) 41,P1 43 40 false .len 42,P1 44 40 false (.fldA 5) 3,P1 45 40 false (.load none) 44,P1 46 40 false
 .len 45,P2 47 40 false (.bin .neq) 43 46,PT 48 40 47]).seq (C.cond (.t 48) ((C.ops [MC 4 (.bool false)]).seq C.ret) C.skip)).seq (((C.ops [MC 5 (i6 0)]).seq (C.block 0 (((C.ops
 [MV 49 5,O1 50 (.fldA 5) 2,LD 51 50,O1 52 .len 51,BI 53 .lss 49 52]).seq (C.cond (.t 53) C.skip (C.exit 0))).seq ((C.block 1 ((C.ops [O1 56 (.fldA 5) 2,LD 57 56,MV 58 5,O2
 59 (.idxA 2) 57 58,O1 60 (.fldA 0) 59,LD 61 60,O1 62 (.fldA 5) 3,LD 63 62,MV 64 5,O2 65 (.idxA 2) 63 64,O1 66 (.fldA 0) 65,LD 67 66,O2 68 (.call 103 true) 61 67,O1 69
 (.un UnOp.not) 68,MV 70 69,P1 71 70 false (.fldA 5) 2,P1 72 70 false (.load none) 71,MG 73 70 false 5,P2 74 70 false (.idxA 2) 72 73,P1 75 70 false (.fldA 1) 74,P1 76 70
 false (.load none) 75,P1 77 70 false (.fldA 5) 3,P1 78 70 false (.load none) 77,MG 79 70 false 5,P2 80 70 false (.idxA 2) 78 79,P1 81 70 false (.fldA 1) 80,P1 82 70 false
 (.load none) 81,P2 83 70 false (.call 103 true) 76 82,P1 84 70 false (.un UnOp.not) 83,PT 85 70 84]).seq (C.cond (.t 85) ((C.ops [MC 4 (.bool false)]).seq C.ret) C.skip))).seq
 (C.ops [MV 54 5,BC 55 .add 54 (i6 1),MV 5 55]))).loop)).seq ((C.ops [MC 4 (.bool true)]).seq
 C.ret))))
theorem qBp:qE Tryz.prog 30 86 2 [RV.tmp 4] qCH:=fi Tryz.f30 [2,3] qJ []
def qCM:C:=
 ((C.ops [MC 4 (.bool false)]).seq (((C.ops [MC 5 (i6 0)]).seq (C.block 0 (((C.ops [MV 7 5,MV 8 0,O1 9 .len 8,BI 10 .lss 7 9]).seq (C.cond (.t 10) C.skip (C.exit 0))).seq
 ((C.block 1 ((C.ops [MV 13 0,MV 14 5,O2 15 (.idxA 1) 13 14,LD 16 15,O1 17 .slen 16,BC 18 .gtr 17 (i6 20)]).seq (C.cond (.t 18) ((C.ops [MC 4 (.bool true)]).seq C.ret)
 C.skip))).seq (C.ops [MV 11 5,BC 12 .add 11 (i6 1),MV 5 12]))).loop)).seq (((C.ops [MC 6 (i6 0)]).seq (C.block 2 (((C.ops [MV 19 6,MV 20 1,O1 21 .len 20,BI 22 .lss 19 21]).seq
 (C.cond (.t 22) C.skip (C.exit 2))).seq ((C.block 3 ((C.ops [MV 25 1,MV 26 6,O2 27 (.idxA 2) 25 26,O1 28 (.fldA 0) 27,LD 29 28,O1 30 .slen 29,BC 31 .gtr 30 (i6 20),MV 32 31,
 MG 33 32 false 1,MG 34 32 false 6,P2 35 32 false (.idxA 2) 33 34,P1 36 32 false (.fldA 1) 35,P1 37 32 false (.load none) 36,P1 38 32 false .len 37,PC 39 32 false (.bin .gtr)
 38 (i6 40),PT 40 32 39]).seq (C.cond (.t 40) ((C.ops [MC 4 (.bool true)]).seq C.ret) C.skip))).seq (C.ops [MV 23 6,BC 24 .add 23 (i6 1),MV 6 24]))).loop)).seq ((C.ops [MV 41 0,
 O1 42 .len 41,BC 43 .gtr 42 (i6 8),MV 44 43,MG 45 44 true 0,P1 46 44 true .len 45,PC 47 44 true (.bin .leq) 46 (i6 32),PF 48 44 47,MV 49 48,MG 50 49 false 0,P1 51 49 false
 .len 50,PC 52 49 false (.bin .gtr) 51 (i6 34),PT 53 49 52,MV 54 53,MG 55 54 false 1,P1 56 54 false .len 55,PC 57 54 false (.bin .gtr) 56 (i6 5),MG 58 54 false 57,MG 59 58
 true 1,P1 60 58 true .len 59,PC 61 58 true (.bin .leq) 60 (i6 16),QF 62 54 false 58 61,PT 63 54 62,MV 64 63,MG 65 64 false 1,P1 66 64 false .len 65,PC 67 64 false (.bin
 .gtr) 66 (i6 18),PT 68 64 67,MV 4 68]).seq
 C.ret))))
theorem qBA:qE Tryz.prog 69 69 0 [RV.tmp 4] qCM:=fi Tryz.f69 [] qJ []
def qhZ:C:=
 ((C.ops [O1 7 (.box 0 58) 3,MC 8 (i6 0)]).seq ((C.block 0 ((C.ops [MV 17 0,MV 18 1,O2 19 (.call 122 true) 17 18,BC 20 .neq 19 (i6 0),MV 16 20]).seq (C.cond (.t 16) ((C.ops [MC
 8 (i6 1)]).seq C.ret) ((C.ops [MV 22 2,O1 23 .len 22,BC 24 .gtr 23 (i6 4096),MV 21 24]).seq (C.cond (.t 21) ((C.ops [MC 8 (i6 4)]).seq C.ret) ((C.ops [MV 26 2,O1 27 (.call 138
 true) 26,BC 28 .neq 27 (i6 0),MV 25 28]).seq (C.cond (.t 25) ((C.ops [MC 8 (i6 11)]).seq C.ret) ((C.ops [O1 30 (.fldA 0) 7,LD 31 30,BC 32 .lss 31 (i6 0),MV 33 32,P1 34 33
 false (.fldA 0) 7,P1 35 33 false (.load none) 34,PC 36 33 false (.bin .geq) 35 (i6 16),PT 37 33 36,MV 38 37,P1 39 38 false (.fldA 1) 7,P1 40 38 false (.load none) 39,PC 41
 38 false (.bin .lss) 40 (i6 0),PT 42 38 41,MV 43 42,P1 44 43 false (.fldA 1) 7,P1 45 43 false (.load none) 44,P1 46 43 false (.fldA 2) 7,P1 47 43 false (.load none) 46,P2 48
 43 false (.bin .gtr) 45 47,PT 49 43 48,MV 50 49,P1 51 50 false (.fldA 2) 7,P1 52 50 false (.load none) 51,MG 53 50 false 2,P1 54 50 false .len 53,P2 55 50 false (.bin .gtr)
 52 54,PT 56 50 55,MV 29 56]).seq (C.cond (.t 29) ((C.ops [MC 8 (i6 2)]).seq C.ret) ((C.ops [O1 58 (.fldA 4) 7,LD 59 58,O1 60 .len 59,BC 61 .gtr 60 (i6 0),MV 62 61,P1 63 62
 true (.fldA 3) 7,P1 64 62 true (.load none) 63,P1 65 62 true (.un UnOp.not) 64,PF 66 62 65,MV 57 66]).seq (C.cond (.t 57) ((C.ops [MC 8 (i6 1)]).seq C.ret) ((C.ops [O1 68
 (.fldA 5) 7,LD 69 68,O1 70 .len 69,BC 71 .eql 70 (i6 0),MV 67 71]).seq (C.cond (.t 67) ((C.ops [MC 8 (i6 5)]).seq C.ret) C.skip))))))))))))).seq (((C.ops [O1 72 (.fldA 5) 7,LD
 73 72,O1 74 .len 73,MC 75 (i6 0)]).seq (C.block 1 ((C.ops [BI 76 .lss 75 74]).seq ((C.cond (.t 76) C.skip (C.exit 1)).seq ((C.block 2 ((C.ops [MV 77 75,O2 78 (.idxA 2) 73 75,O1
 79 (.load (some 2)) 78,⟨some 10,none,.alloc 1 85 [.nl,.nl],[]⟩,MV 9 77,ST 2 10 79]).seq (C.block 3 ((C.ops [O1 81 (.fldA 0) 10,LD 82 81,O1 83 (.call 138 true) 82,BC 84
 .neq 83 (i6 0),MV 80 84]).seq (C.cond (.t 80) ((C.ops [MC 8 (i6 11)]).seq C.ret) ((C.ops [O1 86 (.fldA 0) 10,LD 87 86,MV 88 2,O1 89 (.fldA 1) 7,LD 90 89,O1 91 (.fldA 2) 7,LD
 92 91,ON 93 (.slc 1 true true) [.t 88,.t 90,.t 92],O2 94 (.call 139 true) 87 93,MV 85 94]).seq (C.cond (.t 85) ((C.ops [MC 8 (i6 9)]).seq C.ret) ((C.ops [O1 96 (.fldA 5) 7,LD
 97 96,MV 98 9,O2 99 (.slc 2 false true) 97 98,O1 100 (.mkfn (Fn.func 140) 0) 10,O2 101 (.call 56 true) 99 100,MV 95 101]).seq (C.cond (.t 95) ((C.ops [MC 8 (i6 7)]).seq C.ret)
 ((C.ops [O1 103 (.fldA 1) 10,LD 104 103,O1 105 .len 104,BC 106 .eql 105 (i6 0),MV 102 106]).seq (C.cond (.t 102) ((C.ops [MC 8 (i6 5)]).seq C.ret) C.skip))))))))))).seq (C.ops
 [BC 107 .add 75 (i6 1),MV 75 107])))).loop)).seq ((C.ops [⟨some 11,none,.alloc 2 174 [i6 0,i6 0,i6 0,i6 0,i6 0,i6 0,i6 0,i6 0,i6 0,i6 0,i6 0,i6 0,i6 0,i6 0,i6 0,
 i6 0,i6 0,i6 0,i6 0,i6 0,i6 0,i6 0,i6 0,i6 0,i6 0,i6 0,i6 0,i6 0,i6 0,i6 0,i6 0,i6 0],[]⟩]).seq (((C.ops [MV 108 0,MV 109 1,O1 110 (.fldA 4) 7,LD 111 110,ON
 112 (.call 132 false) [.t 108,.t 109,.t 111,.t 11],MV 12 112]).seq ((C.ops [MV 113 12,BC 114 .neq 113 (i6 0)]).seq (C.cond (.t 114) ((C.ops [MV 115 12,MV 8 115]).seq C.ret)
 C.skip))).seq (((C.ops [O1 116 (.fldA 5) 7,LD 117 116,O1 118 .len 117,MC 119 (i6 0)]).seq (C.block 4 ((C.ops [BI 120 .lss 119 118]).seq ((C.cond (.t 120) C.skip (C.exit 4)).seq
 ((C.block 5 ((C.ops [O2 121 (.idxA 2) 117 119,O1 122 (.load (some 2)) 121,⟨some 14,none,.alloc 3 85 [.nl,.nl],[]⟩,ST 2 14 122]).seq ((C.ops [MV 123 0,MV 124 1,O1 125
 (.fldA 1) 14,LD 126 125,ON 127 (.call 132 false) [.t 123,.t 124,.t 126,.t 11],MV 15 127]).seq ((C.ops [MV 128 15,BC 129 .neq 128 (i6 0)]).seq (C.cond (.t 129) ((C.ops [MV
 130 15,MV 8 130]).seq C.ret) C.skip))))).seq (C.ops [BC 131 .add 119 (i6 1),MV 119 131])))).loop)).seq (((C.ops [O1 132 (.load (some 32)) 11,O1 133 (.call 133 true) 132]).seq
 (C.cond (.t 133) ((C.ops [MC 8 (i6 17)]).seq C.ret) C.skip)).seq ((C.ops [MC 8 (i6 0)]).seq
 C.ret))))))))
theorem qcl:qE Tryz.prog 65 134 4 [RV.tmp 8] qhZ:=fi Tryz.f65 [7,10,11,14] qJ []
def qsA:C:=
 ((C.ops [MC 4 (.bool false)]).seq (((C.ops [MV 6 0,O1 7 .len 6,MV 8 1,O1 9 .len 8,BI 10 .neq 7 9]).seq (C.cond (.t 10) ((C.ops [MC 4 (.bool false)]).seq C.ret) C.skip)).seq
 (((C.ops [MC 5 (i6 0)]).seq (C.block 0 (((C.ops [MV 11 5,MV 12 0,O1 13 .len 12,BI 14 .lss 11 13]).seq (C.cond (.t 14) C.skip (C.exit 0))).seq ((C.block 1 ((C.ops [MV 17 0,MV 18
 5,O2 19 (.idxA 1) 17 18,LD 20 19,MV 21 1,MV 22 5,O2 23 (.idxA 1) 21 22,LD 24 23,BI 25 .neq 20 24]).seq (C.cond (.t 25) ((C.ops [MC 4 (.bool false)]).seq C.ret) C.skip))).seq
 (C.ops [MV 15 5,BC 16 .add 15 (i6 1),MV 5 16]))).loop)).seq ((C.ops [MC 4 (.bool true)]).seq
 C.ret))))
theorem qrp:qE Tryz.prog 103 26 0 [RV.tmp 4] qsA:=fi Tryz.f103 [] qJ []
def qkC:C:=
 ((C.ops [MC 2 (.bool false)]).seq ((C.ops [MV 6 0,OC 7 (.call 241 true) 6 (.str [42]),MV 5 7,O1 8 (.ext 0) 5,O1 9 (.ext 1) 5,MV 3 8,MV 4 9]).seq ((C.ops [MV 10 3,O1 11
 (.call 186 true) 10,MV 12 11,MG 13 12 true 4,P1 14 12 true (.un UnOp.not) 13,MG 15 12 true 14,MG 16 15 false 0,P1 17 15 false .slen 16,PC 18 15 false (.bin .leq) 17 (i6 16),
 QT 19 12 true 15 18,PF 20 12 19,MV 2 20]).seq
 C.ret)))
theorem qg8:qE Tryz.prog 185 21 0 [RV.tmp 2] qkC:=fi Tryz.f185 [] qJ []
theorem qBs:qE Tryz.prog 43 9 0 [RV.tmp 4] (cCT 117):=fi Tryz.f43 [] qJ []
theorem qye:qE Tryz.prog 187 9 0 [RV.tmp 4] (cCT 123):=fi Tryz.f187 [] qJ []
def qwI:C:=
 ((C.ops [O1 2 (.box 0 167) 0,MC 3 (.bool false)]).seq ((C.ops [O1 4 (.fldA 0) 2,LD 5 4,O1 6 (.fldA 0) 1,LD 7 6,BI 8 .eql 5 7,MV 3 8]).seq
 C.ret))
theorem qyf:qE Tryz.prog 188 9 1 [RV.tmp 3] qwI:=fi Tryz.f188 [2] qJ []
def qwJ:C:=
 ((C.ops [MC 4 (i6 0)]).seq (((C.ops [MV 7 0,O1 8 .len 7,MC 9 (i6 0)]).seq (C.block 0 ((C.ops [BI 10 .lss 9 8]).seq ((C.cond (.t 10) C.skip (C.exit 0)).seq ((C.block 1 ((C.ops [MV
 11 9,O2 12 (.idxA 1) 7 9,LD 13 12,MV 5 11,MV 6 13]).seq (((C.ops [MV 14 6,BC 15 .lss 14 (i6 0),MV 16 15,MG 17 16 false 6,MG 18 16 false 1,P2 19 16 false (.bin .geq) 17 18,
 PT 20 16 19]).seq (C.cond (.t 20) ((C.ops [MC 4 (i6 2)]).seq C.ret) C.skip)).seq ((C.ops [MV 21 5,BC 22 .gtr 21 (i6 0),MV 23 22,MG 24 23 true 6,MG 25 23 true 0,MG 26 23 true
 5,PC 27 23 true (.bin .sub) 26 (i6 1),P2 28 23 true (.idxA 1) 25 27,P1 29 23 true (.load none) 28,P2 30 23 true (.bin .leq) 24 29,PF 31 23 30]).seq (C.cond (.t 31) ((C.ops [MC
 4 (i6 10)]).seq C.ret) C.skip))))).seq (C.ops [BC 32 .add 9 (i6 1),MV 9 32])))).loop)).seq ((C.ops [MC 4 (i6 0)]).seq
 C.ret)))
theorem qyg:qE Tryz.prog 189 33 0 [RV.tmp 4] qwJ:=fi Tryz.f189 [] qJ []
def qwx:C:=
 ((C.ops [MC 8 (i6 0)]).seq ((C.ops [MV 14 0,MV 15 1,MV 16 2,ON 17 (.call 50 true) [.t 14,.t 15,.t 16],MV 13 17,O1 18 (.ext 0) 13,O1 19 (.ext 1) 13,MV 9 18,MV 10 19]).seq
 (((C.ops [MV 20 9,O1 21 .len 20,MC 22 (i6 0)]).seq (C.block 0 ((C.ops [BI 23 .lss 22 21]).seq ((C.cond (.t 23) C.skip (C.exit 0)).seq ((C.block 1 ((C.ops [O2 24 (.idxA 1) 20 22,
 LD 25 24,MV 12 25]).seq (C.ops [MV 26 3,MV 27 12,O1 28 .nilchk 26,O2 29 (.idxArr 32 1) 28 27,LD 30 29,BC 31 .add 30 (i6 1),O1 32 .nilchk 26,O2 33 (.idxArr 32 1) 32 27,ST 1
 33 31]))).seq (C.ops [BC 34 .add 22 (i6 1),MV 22 34])))).loop)).seq ((C.ops [MV 35 10,MV 8 35]).seq
 C.ret))))
theorem qx2:qE Tryz.prog 132 36 0 [RV.tmp 8] qwx:=fi Tryz.f132 [] qJ []
def qsL:C:=
 ((C.ops [MC 6 (i6 0)]).seq (((C.ops [MV 7 0,MV 8 1,O2 9 (.call 122 true) 7 8,BC 10 .neq 9 (i6 0)]).seq (C.cond (.t 10) ((C.ops [MC 6 (i6 1)]).seq C.ret) C.skip)).seq ((C.ops [MV
 11 2,MV 12 0,O1 13 .len 12,O2 14 (.call 189 true) 11 13,MV 6 14]).seq
 C.ret)))
theorem qrD:qE Tryz.prog 196 15 0 [RV.tmp 6] qsL:=fi Tryz.f196 [] qJ []
def qwv:C:=
 ((C.ops [MC 2 (.int .u64 0)]).seq ((C.ops [MC 3 (.int .u64 0)]).seq (((C.ops [MV 6 0,O1 7 .len 6,MC 8 (i6 0)]).seq (C.block 0 ((C.ops [BI 9 .lss 8 7]).seq ((C.cond (.t 9) C.skip
 (C.exit 0)).seq ((C.block 1 ((C.ops [O2 10 (.idxA 1) 6 8,LD 11 10,MV 5 11]).seq (C.ops [MV 12 3,MV 13 5,ON 14 (.bin .shl) [.c (.int .u64 1),.t 13],BI 15 .or 12 14,MV 3
 15]))).seq (C.ops [BC 16 .add 8 (i6 1),MV 8 16])))).loop)).seq ((C.ops [MV 17 3,MV 2 17]).seq
 C.ret))))
theorem qxZ:qE Tryz.prog 125 18 0 [RV.tmp 2] qwv:=fi Tryz.f125 [] qJ []
def qwM:C:=
 ((C.ops [ON 4 (.nilo 0 1 3) []]).seq ((C.ops [ON 5 (.nilo 1 1 3) []]).seq (((C.ops [MV 8 0,O1 9 .len 8,MC 10 (i6 0)]).seq (C.block 0 ((C.ops [BI 11 .lss 10 9]).seq ((C.cond (.t
 11) C.skip (C.exit 0)).seq ((C.block 1 ((C.ops [MV 12 10,O2 13 (.idxA 2) 8 10,O1 14 (.load (some 2)) 13,⟨some 7,none,.alloc 2 167 [.str [],.nl],[]⟩,MV 6 12,ST 2 7 14]).seq
 ((C.ops [O1 15 (.fldA 1) 7,LD 16 15,O1 17 (.call 125 true) 16,MV 18 1,BI 19 .andNot 17 18,BC 20 .eql 19 (.int .u64 0)]).seq (C.cond (.t 20) (C.ops [MV 21 5,MV 22 6,⟨some 23,
 none,.bslc 3 1 1 3 [i6 0] [(0,1)],[.t 22]⟩,O2 24 (.app 4 1 3 8) 21 23,MV 5 24]) C.skip)))).seq (C.ops [BC 25 .add 10 (i6 1),MV 10 25])))).loop)).seq ((C.ops [MV 26 5,MV 4
 26]).seq
 C.ret))))
theorem qyk:qE Tryz.prog 197 27 5 [RV.tmp 4] qwM:=fi Tryz.f197 [4,5,7,23,24] qJ []
def qwN:C:=
 ((C.ops [O1 1 (.box 0 224) 0,MC 2 .nilfn]).seq ((C.ops [O1 3 (.mkfn (Fn.func 245) 0) 1,MV 2 3]).seq
 C.ret))
theorem qyl:qE Tryz.prog 198 4 1 [RV.tmp 2] qwN:=fi Tryz.f198 [1] qJ []
def qwO:C:=
 ((C.ops [MC 2 (i6 0)]).seq ((C.ops [MV 3 0,BC 4 .shr 3 (.int .u64 1),BC 5 .and 4 (.int .u64 6148914691236517205),MV 6 0,BC 7 .and 6 (.int .u64 6148914691236517205),BI 8 .add 5
 7,MV 0 8]).seq ((C.ops [MV 9 0,BC 10 .shr 9 (.int .u64 2),BC 11 .and 10 (.int .u64 3689348814741910323),MV 12 0,BC 13 .and 12 (.int .u64 3689348814741910323),BI 14 .add 11
 13,MV 0 14]).seq ((C.ops [MV 15 0,BC 16 .shr 15 (.int .u64 4),MV 17 0,BI 18 .add 16 17,BC 19 .and 18 (.int .u64 1085102592571150095),MV 0 19]).seq ((C.ops [MV 20 0,MV 21 0,
 BC 22 .shr 21 (.int .u64 8),BI 23 .add 20 22,MV 0 23]).seq ((C.ops [MV 24 0,MV 25 0,BC 26 .shr 25 (.int .u64 16),BI 27 .add 24 26,MV 0 27]).seq ((C.ops [MV 28 0,MV 29 0,BC
 30 .shr 29 (.int .u64 32),BI 31 .add 28 30,MV 0 31]).seq ((C.ops [MV 32 0,O1 33 (.conv .i64) 32,BC 34 .and 33 (i6 127),MV 2 34]).seq
 C.ret))))))))
theorem qym:qE Tryz.prog 199 35 0 [RV.tmp 2] qwO:=fi Tryz.f199 [] qJ []
def qww:C:=
 ((C.ops [ON 2 (.nilo 0 1 3) []]).seq ((C.ops [ON 3 (.nilo 1 1 3) []]).seq (((C.ops [MC 5 (i6 0)]).seq (C.block 0 ((C.ops [BC 6 .lss 5 (i6 64)]).seq ((C.cond (.t 6) C.skip (C.exit
 0)).seq ((C.block 1 ((C.ops [MV 7 5,MV 4 7]).seq ((C.ops [MV 8 0,MV 9 4,BI 10 .shr 8 9,BC 11 .and 10 (.int .u64 1),BC 12 .eql 11 (.int .u64 1)]).seq (C.cond (.t 12) (C.ops [MV
 13 3,MV 14 4,⟨some 15,none,.bslc 2 1 1 3 [i6 0] [(0,1)],[.t 14]⟩,O2 16 (.app 3 1 3 8) 13 15,MV 3 16]) C.skip)))).seq (C.ops [BC 17 .add 5 (i6 1),MV 5 17])))).loop)).seq
 ((C.ops [MV 18 3,MV 2 18]).seq
 C.ret))))
theorem qx0:qE Tryz.prog 126 19 4 [RV.tmp 2] qww:=fi Tryz.f126 [2,3,15,16] qJ []
def qCK:C:=
 ((C.ops [MC 4 (i6 0)]).seq (((C.ops [MV 9 0,O1 10 .len 9,MC 11 (i6 0)]).seq (C.block 0 ((C.ops [BI 12 .lss 11 10]).seq ((C.cond (.t 12) C.skip (C.exit 0)).seq ((C.block 1 ((C.ops
 [MV 13 11,O2 14 (.idxA 1) 9 11,LD 15 14,MV 5 13,MV 6 15]).seq (((C.ops [MV 16 5,MV 17 1,O1 18 .len 17,BI 19 .geq 16 18]).seq (C.cond (.t 19) ((C.ops [MC 4 (i6 1)]).seq
 C.ret) C.skip)).seq ((C.ops [MV 20 1,MV 21 5,O2 22 (.idxA 1) 20 21,LD 23 22,MV 7 23]).seq ((C.ops [MV 24 6,MV 25 7,O2 26 (.call 141 true) 24 25,MV 8 26]).seq ((C.ops [MV 27
 8,BC 28 .neq 27 (i6 0)]).seq (C.cond (.t 28) ((C.ops [MV 29 8,MV 4 29]).seq C.ret) C.skip))))))).seq (C.ops [BC 30 .add 11 (i6 1),MV 11 30])))).loop)).seq (((C.ops [MV 31 0,O1
 32 .len 31,MV 33 1,O1 34 .len 33,BI 35 .lss 32 34]).seq (C.cond (.t 35) ((C.ops [MC 4 (i6 (-1))]).seq C.ret) C.skip)).seq ((C.ops [MC 4 (i6 0)]).seq
 C.ret))))
theorem qBy:qE Tryz.prog 66 36 0 [RV.tmp 4] qCK:=fi Tryz.f66 [] qJ []
theorem qxW:qE Tryz.prog 117 19 0 [RV.tmp 4] cIX:=fi Tryz.f117 [] qJ []
theorem qru:qE Tryz.prog 123 19 0 [RV.tmp 4] (cIF 2 (some 2)):=fi Tryz.f123 [] qJ []
def qwu:C:=
 ((C.ops [O1 2 (.box 0 167) 0,MC 3 (.bool false)]).seq ((C.ops [O1 4 (.fldA 0) 2,LD 5 4,LD 6 1,BI 7 .eql 5 6,MV 3 7]).seq
 C.ret))
theorem qxY:qE Tryz.prog 124 8 1 [RV.tmp 3] qwu:=fi Tryz.f124 [2] qJ []
def qwy:C:=
 ((C.ops [MC 2 (i6 0)]).seq (((C.ops [MV 6 0,O1 7 .len 6,MC 8 (i6 0)]).seq (C.block 0 ((C.ops [BI 9 .lss 8 7]).seq ((C.cond (.t 9) C.skip (C.exit 0)).seq ((C.block 1 ((C.ops [O2
 10 (.idxA 1) 6 8,LD 11 10,MV 4 11]).seq ((C.ops [MV 12 4,⟨some 13,none,.build [.str [],.str [],i6 0] [(0,1)],[.t 12]⟩,O1 14 (.call 194 true) 13,MV 5 14]).seq ((C.ops [MV
 15 5,BC 16 .neq 15 (i6 0)]).seq (C.cond (.t 16) ((C.ops [MV 17 5,MV 2 17]).seq C.ret) C.skip))))).seq (C.ops [BC 18 .add 8 (i6 1),MV 8 18])))).loop)).seq ((C.ops [MC 2 (i6
 0)]).seq
 C.ret)))
theorem qx3:qE Tryz.prog 138 19 0 [RV.tmp 2] qwy:=fi Tryz.f138 [] qJ []
def qwz:C:=
 ((C.ops [MC 4 (.bool false)]).seq ((C.ops [MV 5 0,MV 6 1,O2 7 (.call 53 true) 5 6,MV 4 7]).seq
 C.ret))
theorem qx4:qE Tryz.prog 139 8 0 [RV.tmp 4] qwz:=fi Tryz.f139 [] qJ []
theorem qBx:qE Tryz.prog 56 9 0 [RV.tmp 4] (cCT 129):=fi Tryz.f56 [] qJ []
def qwA:C:=
 ((C.ops [O1 2 (.box 0 85) 0,MC 3 (.bool false)]).seq ((C.ops [O1 4 (.fldA 0) 1,LD 5 4,O1 6 (.fldA 0) 2,LD 7 6,O2 8 (.call 139 true) 5 7,MV 3 8]).seq
 C.ret))
theorem qx5:qE Tryz.prog 140 9 1 [RV.tmp 3] qwA:=fi Tryz.f140 [2] qJ []
def qoB:C:=
 ((C.ops [MC 4 (i6 0)]).seq ((C.ops [MV 7 0,O1 8 (.call 195 true) 7,MV 5 8]).seq ((C.ops [MV 9 1,O1 10 (.call 195 true) 9,MV 6 10]).seq (((C.ops [MV 11 5]).seq (C.cond (.t 11)
 (((C.ops [MV 12 6]).seq (C.cond (.t 12) ((C.ops [MC 4 (i6 0)]).seq C.ret) C.skip)).seq ((C.ops [MC 4 (i6 (-1))]).seq C.ret)) C.skip)).seq (((C.ops [MV 13 6]).seq (C.cond (.t 13)
 ((C.ops [MC 4 (i6 1)]).seq C.ret) C.skip)).seq (((C.ops [MV 14 0,MV 15 1,BI 16 .lss 14 15]).seq (C.cond (.t 16) ((C.ops [MC 4 (i6 (-1))]).seq C.ret) C.skip)).seq (((C.ops [MV 17
 0,MV 18 1,BI 19 .gtr 17 18]).seq (C.cond (.t 19) ((C.ops [MC 4 (i6 1)]).seq C.ret) C.skip)).seq ((C.ops [MC 4 (i6 0)]).seq
 C.ret))))))))
theorem qlB:qE Tryz.prog 141 20 0 [RV.tmp 4] qoB:=fi Tryz.f141 [] qJ []
def qsG:C:=
 ((C.ops [O1 1 (.box 0 181) 0,MC 2 (i6 0)]).seq (((C.ops [O1 3 (.fldA 0) 1,LD 4 3,O1 5 (.call 193 true) 4,O1 6 (.un UnOp.not) 5,MV 7 6,P1 8 7 false (.fldA 1) 1,P1 9 7 false
 (.load none) 8,PC 10 7 false (.bin .neq) 9 (.str []),MG 11 7 false 10,P1 12 11 true (.fldA 1) 1,P1 13 11 true (.load none) 12,P1 14 11 true (.call 193 true) 13,P1 15 11 true
 (.un UnOp.not) 14,QF 16 7 false 11 15,PT 17 7 16]).seq (C.cond (.t 17) ((C.ops [MC 2 (i6 11)]).seq C.ret) C.skip)).seq (((C.ops [O1 18 (.fldA 2) 1,LD 19 18,BC 20 .lss 19 (i6
 0),MV 21 20,P1 22 21 false (.fldA 2) 1,P1 23 21 false (.load none) 22,PC 24 21 false (.bin .gtr) 23 (i6 65536),PT 25 21 24]).seq (C.cond (.t 25) ((C.ops [MC 2 (i6 2)]).seq
 C.ret) C.skip)).seq ((C.ops [MC 2 (i6 0)]).seq
 C.ret))))
theorem qry:qE Tryz.prog 137 26 1 [RV.tmp 2] qsG:=fi Tryz.f137 [1] qJ []
def qsN:C:=
 ((C.ops [MC 4 (.str []),MC 5 (.bool false)]).seq ((C.ops [MV 6 0,MV 7 1,O2 8 (.call 284 true) 6 7,O1 9 (.ext 0) 8,O1 10 (.ext 1) 8,MV 4 9,MV 5 10]).seq
 C.ret))
theorem qrF:qE Tryz.prog 241 11 0 [RV.tmp 4,RV.tmp 5] qsN:=fi Tryz.f241 [] qJ []
theorem qyh:qE Tryz.prog 190 9 0 [RV.tmp 4] (cCT 243):=fi Tryz.f190 [] qJ []
def qwK:C:=
 ((C.ops [MC 2 (.bool false)]).seq ((C.ops [MV 3 0,BC 4 .gtr 3 (i6 1),MV 2 4]).seq
 C.ret))
theorem qyi:qE Tryz.prog 191 5 0 [RV.tmp 2] qwK:=fi Tryz.f191 [] qJ []
def qwY:C:=
 ((C.ops [LD 7 1,O1 8 .len 7,ON 9 (.bin .shl) [.c (.int .u64 1),.t 8],MC 10 (.int .u64 0)]).seq (C.block 0 ((C.ops [BI 11 .lss 10 9]).seq ((C.cond (.t 11) C.skip (C.exit 0)).seq
 ((C.block 1 ((C.ops [MV 12 10,MV 3 12]).seq ((C.ops [MC 4 (.int .u64 0)]).seq (((C.ops [LD 13 1,O1 14 .len 13,MC 15 (i6 0)]).seq (C.block 2 ((C.ops [BI 16 .lss 15 14]).seq
 ((C.cond (.t 16) C.skip (C.exit 2)).seq ((C.block 3 ((C.ops [MV 17 15,O2 18 (.idxA 1) 13 15,LD 19 18,MV 5 17,MV 6 19]).seq ((C.ops [MV 20 3,MV 21 5,BI 22 .shr 20 21,BC 23
 .and 22 (.int .u64 1),BC 24 .eql 23 (.int .u64 1)]).seq (C.cond (.t 24) (C.ops [MV 25 4,MV 26 6,BI 27 .or 25 26,MV 4 27]) C.skip)))).seq (C.ops [BC 28 .add 15 (i6 1),MV 15
 28])))).loop)).seq ((C.ops [MV 29 0,MV 30 3,MV 31 4,ON 32 .callv [.t 29,.t 30,.t 31],O1 33 (.un UnOp.not) 32]).seq (C.cond (.t 33) C.ret C.skip)))))).seq (C.ops [BC 34 .add
 10 (.int .u64 1),MV 10
 34])))).loop))
theorem qyy:qE Tryz.prog 245 35 0 [] qwY:=fi Tryz.f245 [] qJ []
def qCN:C:=
 ((C.ops [MC 4 (.bool false)]).seq (((C.ops [MC 5 (i6 0)]).seq (C.block 0 (((C.ops [MV 6 5,MV 7 0,O1 8 .len 7,BI 9 .lss 6 8]).seq (C.cond (.t 9) C.skip (C.exit 0))).seq ((C.block
 1 ((C.ops [MV 12 0,MV 13 5,O2 14 (.idxA 1) 12 13,LD 15 14,O1 16 .slen 15,BC 17 .gtr 16 (i6 20)]).seq (C.cond (.t 17) ((C.ops [MC 4 (.bool true)]).seq C.ret) C.skip))).seq
 (C.ops [MV 10 5,BC 11 .add 10 (i6 1),MV 5 11]))).loop)).seq ((C.ops [MV 18 0,O1 19 .len 18,MV 20 1,BI 21 .gtr 19 20,MV 4 21]).seq
 C.ret)))
theorem qBB:qE Tryz.prog 70 22 0 [RV.tmp 4] qCN:=fi Tryz.f70 [] qJ []
def qsK:C:=
 ((C.ops [O1 1 (.box 0 181) 0,MC 2 (i6 0)]).seq ((C.block 0 ((C.ops [O1 4 (.fldA 0) 1,LD 5 4,O1 6 (.call 244 true) 5,O1 7 (.un UnOp.not) 6,MV 8 7,P1 9 8 false (.fldA 1) 1,P1
 10 8 false (.load none) 9,PC 11 8 false (.bin .neq) 10 (.str []),MG 12 8 false 11,P1 13 12 true (.fldA 1) 1,P1 14 12 true (.load none) 13,P1 15 12 true (.call 244 true) 14,P1
 16 12 true (.un UnOp.not) 15,QF 17 8 false 12 16,PT 18 8 17,MV 3 18]).seq (C.cond (.t 3) ((C.ops [MC 2 (i6 11)]).seq C.ret) ((C.ops [O1 20 (.fldA 2) 1,LD 21 20,BC 22 .lss 21
 (i6 0),MV 23 22,P1 24 23 false (.fldA 2) 1,P1 25 23 false (.load none) 24,PC 26 23 false (.bin .gtr) 25 (i6 65536),PT 27 23 26,MV 19 27]).seq (C.cond (.t 19) ((C.ops [MC 2
 (i6 2)]).seq C.ret) C.skip))))).seq ((C.ops [MC 2 (i6 0)]).seq
 C.ret)))
theorem qrC:qE Tryz.prog 194 28 1 [RV.tmp 2] qsK:=fi Tryz.f194 [1] qJ []
theorem qx1:qE Tryz.prog 129 19 0 [RV.tmp 4] (cIF 2 (some 2)):=fi Tryz.f129 [] qJ []
def qhW:C:=
 ((C.ops [MC 2 (.bool false)]).seq (((C.ops [MV 4 0,O1 5 (.call 216 true) 4]).seq (C.cond (.t 5) ((C.ops [MC 2 (.bool true)]).seq C.ret) C.skip)).seq ((C.ops [MC 3 (i6 8)]).seq
 (((C.ops [MV 6 0,O1 7 .slen 6,BC 8 .gtr 7 (i6 1)]).seq (C.cond (.t 8) (C.ops [MC 3 (i6 2)]) C.skip)).seq ((C.ops [MV 9 0,MV 10 0,MV 11 3,⟨some 12,none,.build [.str [],.str
 [],.str [],i6 0,i6 0,.str []] [(0,1),(1,1),(4,1)],[.t 9,.t 10,.t 11]⟩,O1 13 (.call 211 true) 12,BC 14 .eql 13 (i6 0),MV 2 14]).seq
 C.ret)))))
theorem qeX:qE Tryz.prog 193 15 0 [RV.tmp 2] qhW:=fi Tryz.f193 [] qJ []
def qkG:C:=
 ((C.ops [MC 4 (.str []),MC 5 (.bool false)]).seq (((C.ops [MV 6 0,MV 7 1,O2 8 (.call 304 true) 6 7,O1 9 (.un UnOp.not) 8]).seq (C.cond (.t 9) ((C.ops [MV 10 0,MV 4 10,MC 5
 (.bool false)]).seq C.ret) C.skip)).seq ((C.ops [MV 11 0,MV 12 0,O1 13 .slen 12,MV 14 1,O1 15 .slen 14,BI 16 .sub 13 15,O2 17 (.sslc false true) 11 16,MV 4 17,MC 5 (.bool
 true)]).seq
 C.ret)))
theorem qhc:qE Tryz.prog 284 18 0 [RV.tmp 4,RV.tmp 5] qkG:=fi Tryz.f284 [] qJ []
theorem qyx:qE Tryz.prog 243 19 0 [RV.tmp 4] (cIF 1 none):=fi Tryz.f243 [] qJ []
def qoC:C:=
 ((C.ops [MC 2 (.bool false)]).seq (((C.ops [MV 9 0,O1 10 (.call 247 true) 9]).seq (C.cond (.t 10) ((C.ops [MC 2 (.bool true)]).seq C.ret) C.skip)).seq (((C.ops [MV 11 0,O1 12
 .slen 11,BC 13 .eql 12 (i6 1)]).seq (C.cond (.t 13) ((C.ops [MV 14 0,OC 15 .sidx 14 (i6 0),O1 16 (.call 285 true) 15,MV 3 16]).seq ((C.ops [MV 17 3,BC 18 .eql 17 (i6 5),MV 19
 18,MG 20 19 false 3,PC 21 19 false (.bin .eql) 20 (i6 4),PT 22 19 21,MV 2 22]).seq C.ret)) C.skip)).seq ((C.ops [MV 24 0,OC 25 (.call 286 true) 24 (.str [91]),MV 23 25,O1 26
 (.ext 0) 23,O1 27 (.ext 1) 23,MV 4 26,MV 5 27]).seq ((C.ops [MV 29 4,OC 30 (.call 241 true) 29 (.str [93]),MV 28 30,O1 31 (.ext 0) 28,O1 32 (.ext 1) 28,MV 4 31,MV 6
 32]).seq ((C.ops [MV 34 4,O1 35 (.call 287 true) 34,MV 33 35,O1 36 (.ext 0) 33,O1 37 (.ext 1) 33,MV 7 36,MV 8 37]).seq ((C.ops [MV 38 5,MV 39 38,MG 40 39 true 6,PF 41 39
 40,MV 42 41,MG 43 42 true 8,PF 44 42 43,MV 45 44,MG 46 45 true 7,PC 47 45 true (.bin .leq) 46 (i6 64),PF 48 45 47,MV 2 48]).seq
 C.ret)))))))
theorem qlC:qE Tryz.prog 244 49 0 [RV.tmp 2] qoC:=fi Tryz.f244 [] qJ []
def qfU:C:=
 ((C.ops [O1 1 (.box 0 124) 0,MC 2 (i6 0)]).seq (((C.ops [O1 6 (.fldA 4) 1,LD 7 6,BC 8 .lss 7 (i6 0),MV 9 8,P1 10 9 false (.fldA 4) 1,P1 11 9 false (.load none) 10,PC 12 9
 false (.bin .gtr) 11 (i6 31),PT 13 9 12]).seq (C.cond (.t 13) ((C.ops [MC 2 (i6 2)]).seq C.ret) C.skip)).seq ((C.ops [O1 14 (.load (some 6)) 1,OC 15 (.call 255 true) 14 (i6 2),
 O1 16 (.load (some 6)) 1,OC 17 (.call 255 true) 16 (i6 8),MV 3 15,MV 4 17]).seq (((C.ops [MV 18 3,MV 19 18,MG 20 19 true 4,PF 21 19 20]).seq (C.cond (.t 21) ((C.ops [MC 2 (i6
 8)]).seq C.ret) C.skip)).seq ((C.block 0 ((C.ops [MV 51 3,MV 50 51]).seq (C.cond (.t 50) ((C.ops [O1 52 (.fldA 0) 1,LD 53 52,O1 54 (.call 256 true) 53,O1 55 (.un UnOp.not) 54,
 MV 56 55,P1 57 56 false (.fldA 1) 1,P1 58 56 false (.load none) 57,P1 59 56 false (.fldA 0) 1,P1 60 56 false (.load none) 59,P2 61 56 false (.bin .neq) 58 60,PT 62 56
 61]).seq (C.cond (.t 62) ((C.ops [MC 2 (i6 11)]).seq C.ret) C.skip)) ((C.ops [MV 64 4,MV 63 64]).seq (C.cond (.t 63) ((C.ops [O1 65 (.fldA 0) 1,LD 66 65,O1 67 .slen 66,BC 68
 .neq 67 (i6 1),MV 69 68,P1 70 69 false (.fldA 0) 1,P1 71 69 false (.load none) 70,PC 72 69 false .sidx 71 (i6 0),P1 73 69 false (.call 257 true) 72,PC 74 69 false (.bin .neq)
 73 (i6 5),MG 75 69 false 74,P1 76 75 true (.fldA 0) 1,P1 77 75 true (.load none) 76,PC 78 75 true .sidx 77 (i6 0),P1 79 75 true (.call 257 true) 78,PC 80 75 true (.bin .neq)
 79 (i6 4),QF 81 69 false 75 80,PT 82 69 81,MV 83 82,P1 84 83 false (.fldA 1) 1,P1 85 83 false (.load none) 84,P1 86 83 false (.fldA 0) 1,P1 87 83 false (.load none) 86,P2
 88 83 false (.bin .neq) 85 87,PT 89 83 88]).seq (C.cond (.t 89) ((C.ops [MC 2 (i6 11)]).seq C.ret) C.skip)) (((C.ops [O1 22 (.fldA 0) 1,LD 23 22,O1 24 (.call 216 true) 23,O1 25
 (.un UnOp.not) 24,MV 26 25,P1 27 26 false (.fldA 1) 1,P1 28 26 false (.load none) 27,PC 29 26 false (.bin .eql) 28 (.str []),PT 30 26 29,MV 31 30,P1 32 31 false (.fldA 1) 1,
 P1 33 31 false (.load none) 32,P1 34 31 false .slen 33,PC 35 31 false (.bin .gtr) 34 (i6 64),PT 36 31 35]).seq (C.cond (.t 36) ((C.ops [MC 2 (i6 11)]).seq C.ret) C.skip)).seq
 ((C.ops [MC 5 (i6 0)]).seq (C.block 1 (((C.ops [MV 37 5,O1 38 (.fldA 1) 1,LD 39 38,O1 40 .slen 39,BI 41 .lss 37 40]).seq (C.cond (.t 41) C.skip (C.exit 1))).seq ((C.block 2
 ((C.ops [O1 44 (.fldA 1) 1,LD 45 44,MV 46 5,O2 47 .sidx 45 46,O1 48 (.call 258 true) 47,O1 49 (.un UnOp.not) 48]).seq (C.cond (.t 49) ((C.ops [MC 2 (i6 11)]).seq C.ret)
 C.skip))).seq (C.ops [MV 42 5,BC 43 .add 42 (i6 1),MV 5 43]))).loop)))))))).seq (((C.ops [O1 90 (.fldA 2) 1,O1 91 (.fldA 1) 90,LD 92 91,BC 93 .lss 92 (i6 0)]).seq (C.cond (.t
 93) ((C.ops [MC 2 (i6 2)]).seq C.ret) C.skip)).seq (((C.ops [O1 94 (.fldA 2) 1,O1 95 (.fldA 0) 94,LD 96 95,O1 97 (.call 259 true) 96,O1 98 (.un UnOp.not) 97,MV 99 98,P1 100
 99 false (.fldA 5) 1,P1 101 99 false (.load none) 100,P1 102 99 false (.call 259 true) 101,P1 103 99 false (.un UnOp.not) 102,PT 104 99 103]).seq (C.cond (.t 104) ((C.ops [MC 2
 (i6 14)]).seq C.ret) C.skip)).seq ((C.ops [MC 2 (i6 0)]).seq
 C.ret))))))))
theorem qdF:qE Tryz.prog 211 105 1 [RV.tmp 2] qfU:=fi Tryz.f211 [1] qJ []
def qxc:C:=
 ((C.ops [MC 4 (.str []),MC 5 (.bool false)]).seq ((C.ops [MV 6 0,MV 7 1,O2 8 (.call 306 true) 6 7,O1 9 (.ext 0) 8,O1 10 (.ext 1) 8,MV 4 9,MV 5 10]).seq
 C.ret))
theorem qyO:qE Tryz.prog 286 11 0 [RV.tmp 4,RV.tmp 5] qxc:=fi Tryz.f286 [] qJ []
def qhY:C:=
 ((C.ops [MC 2 (i6 0),MC 3 (.bool false)]).seq ((C.ops [MV 7 0,O1 8 (.call 291 true) 7,MV 6 8,O1 9 (.ext 0) 6,O1 10 (.ext 1) 6,MV 4 9,MV 5 10]).seq ((C.ops [MV 11 4,MV 12 5,
 O1 13 (.isnil .iface false) 12,MV 14 13,MG 15 14 true 4,PC 16 14 true (.bin .geq) 15 (i6 1),PF 17 14 16,MV 18 17,MG 19 18 true 0,P1 20 18 true .slen 19,PC 21 18 true (.bin
 .leq) 20 (i6 9),PF 22 18 21,MV 23 22,MG 24 23 true 4,P1 25 23 true (.call 86 true) 24,MG 26 23 true 0,P2 27 23 true (.bin .eql) 25 26,PF 28 23 27,MV 2 11,MV 3 28]).seq
 C.ret)))
theorem qeZ:qE Tryz.prog 287 29 0 [RV.tmp 2,RV.tmp 3] qhY:=fi Tryz.f287 [] qJ []
def qw2:C:=
 ((C.ops [O1 2 (.box 0 124) 0,MC 4 (.bool false)]).seq ((C.ops [O1 5 (.fldA 4) 2,LD 6 5,MV 7 1,BI 8 .quo 6 7,BC 9 .rem 8 (i6 2),BC 10 .eql 9 (i6 1),MV 4 10]).seq
 C.ret))
theorem qyE:qE Tryz.prog 255 11 1 [RV.tmp 4] qw2:=fi Tryz.f255 [2] qJ []
def qw3:C:=
 ((C.ops [MC 2 (.bool false)]).seq (((C.ops [MC 3 (i6 1)]).seq (C.block 0 (((C.ops [MV 4 3,BC 5 .leq 4 (i6 64)]).seq (C.cond (.t 5) C.skip (C.exit 0))).seq ((C.block 1 ((C.ops [MV
 8 0,MV 9 3,O1 10 (.call 86 true) 9,ON 11 (.bin .add) [.c (.str [91]),.t 10],BC 12 .add 11 (.str [93]),BI 13 .eql 8 12]).seq (C.cond (.t 13) ((C.ops [MC 2 (.bool true)]).seq
 C.ret) C.skip))).seq (C.ops [MV 6 3,BC 7 .add 6 (i6 1),MV 3 7]))).loop)).seq ((C.ops [MC 2 (.bool false)]).seq
 C.ret)))
theorem qyF:qE Tryz.prog 256 14 0 [RV.tmp 2] qw3:=fi Tryz.f256 [] qJ []
def qw5:C:=
 ((C.ops [MC 2 (.bool false)]).seq ((C.ops [MV 3 0,BC 4 .eql 3 (.str []),MV 5 4,MG 6 5 false 0,P1 7 5 false (.call 166 true) 6,PT 8 5 7,MV 2 8]).seq
 C.ret))
theorem qyH:qE Tryz.prog 259 9 0 [RV.tmp 2] qw5:=fi Tryz.f259 [] qJ []
def qsU:C:=
 ((C.ops [MC 4 (.str []),MC 5 (.bool false)]).seq (((C.ops [MV 6 0,MV 7 1,O2 8 (.call 314 true) 6 7,O1 9 (.un UnOp.not) 8]).seq (C.cond (.t 9) ((C.ops [MV 10 0,MV 4 10,MC 5
 (.bool false)]).seq C.ret) C.skip)).seq ((C.ops [MV 11 0,MV 12 1,O1 13 .slen 12,O2 14 (.sslc true false) 11 13,MV 4 14,MC 5 (.bool true)]).seq
 C.ret)))
theorem qrM:qE Tryz.prog 306 15 0 [RV.tmp 4,RV.tmp 5] qsU:=fi Tryz.f306 [] qJ []
end
section
open Go Go.Proofs AF HY LN
namespace RC
abbrev Str:=List UInt8
def qn(L:List Int):AV:= .sl L.length fun i=> [.int .i64 (L.getD i 0)]
def qhF(s:Str):Bool:=decide (1≤s.length)&&decide (s.drop (s.length-1)= [42])
def qqB(s:Str):Bool:=if qhF s=true then jL (s.take (s.length-1))&&decide (s.length≤16) else jL s
theorem qeh:((1:Nat):Int)=1:=rfl
theorem qrV(s:Str)(h:List AObj)(hs:s.length≤1000000000):ACalls Tryz.prog 304 [.str s,.str [42]] h (.bool (qhF s)) h:=by
 unfold qhF
 by_cases g:1≤s.length
 ·have k1:((1:Int)≤s.length)=True:=eqt (by omega);have k2:((s.length:Int)-1).toNat=s.length-1:=by omega
  have k3:(0≤(s.length:Int)-1)=True:=eqt (by omega);have k4:((s.length:Int)-1≤s.length)=True:=eqt (by omega);have k5:List.take (s.length-(s.length-1)) (List.drop (s.length-1) s)=s.drop (s.length-1):=ltl (by simp);rw[dqt g];refine acO qhd ?_;simp (disch:=omega) only[qkH,qeh,k1,k2,k3,k4,k5,go_sem]
  repeat' first
   |(apply qd;exact rvk;simp only[go_sem];exact qj)
   |with_reducible apply aiA
  all_goals try exact clz
 ·have k1:((1:Int)≤s.length)=False:=eqf (by omega);rw[dqf g];refine acO qhd ?_;simp (disch:=omega) only[qkH,qeh,k1,go_sem]
  repeat' first
   |(apply qd;exact rvk;simp only[go_sem];exact qj)
theorem qtn(s:Str)(h:List AObj)(hs:s.length≤1000000000):ACalls Tryz.prog 284 [.str s,.str [42]] h (.tup [.str (if qhF s=true then s.take (s.length-1) else s),.bool (qhF s)]) h:=by
 have c1:=fun h=>qrV s h hs
 cases g:qhF s with
 |true=>
  rw[g]at c1;have g1:1≤s.length:=by unfold qhF at g;simp at g;omega
  have k2:((s.length:Int)-1).toNat=s.length-1:=by omega
  have k3:(0≤(s.length:Int)-1)=True:=eqt (by omega);have k4:((s.length:Int)-1≤s.length)=True:=eqt (by omega);refine acO qhc ?_;simp (disch:=omega) only[qkG,go_sem]
  repeat' first
   |(refine cA (c1 _) flk ?_;simp (disch:=omega) only[qeh,k2,k3,k4,Nat.sub_zero,go_sem])
   |(apply qd;exact rvk;simp only[go_sem];exact qj)
   |with_reducible apply aiA
  all_goals try exact clz
 |false=>
  rw[g]at c1;refine acO qhc ?_;simp (disch:=omega) only[qkG,go_sem]
  repeat' first
   |(refine cA (c1 _) flk ?_;simp (disch:=omega) only[go_sem])
   |(apply qd;exact rvk;simp only[go_sem];exact qj)
theorem qro(s:Str)(h:List AObj)(hs:s.length≤1000000000):ACalls Tryz.prog 241 [.str s,.str [42]] h (.tup [.str (if qhF s=true then s.take (s.length-1) else s),.bool (qhF s)]) h:=by
 have c1:=fun h=>qtn s h hs
 refine acO qrF ?_;simp (disch:=omega) only[qsN,go_sem]
 repeat' first
  |(refine cA (c1 _) flk ?_;simp (disch:=omega) only[go_sem])
  |(apply qd;exact rvk;simp only[go_sem];exact qj)
  |with_reducible apply aiA
 all_goals try exact clz
theorem qB9(s:Str)(h:List AObj)(hs:s.length≤1000000000):ACalls Tryz.prog 185 [.str s] h (.bool (qqB s)) h:=by
 have c1:=fun h=>qro s h hs
 unfold qqB;cases g:qhF s with
 |true=>
  rw[g]at c1;simp only[if_true]at c1;have c2:=fun h=>t44 (s.take (s.length-1)) h (by simp;omega)
  rw[ipo rfl];cases g2:jL (s.take (s.length-1))with
  |true=>
   rw[g2]at c2;have k7:decide ((s.length:Int)≤16)=decide (s.length≤16):=decide_eq_decide.2 (by omega);refine acO qg8 ?_;simp (disch:=omega) only[qkC,go_sem]
   repeat' first
    |((first|refine cA (c1 _) ?_ ?_|refine cA (c2 _) ?_ ?_);exact flk;simp (disch:=omega) only[k7,go_sem])
    |(apply qd;exact rvk;simp only[go_sem];exact qj)
    |with_reducible apply aiA
   all_goals try exact clz
  |false=>
   rw[g2]at c2;refine acO qg8 ?_;simp (disch:=omega) only[qkC,go_sem]
   repeat' first
    |((first|refine cA (c1 _) ?_ ?_|refine cA (c2 _) ?_ ?_);exact flk;simp (disch:=omega) only[go_sem])
    |(apply qd;exact rvk;simp only[go_sem];exact qj)
    |with_reducible apply aiA
   all_goals try exact clz
 |false=>
  rw[g]at c1;rw[ine (by simp)]at c1 ⊢;have c2:=fun h=>t44 s h hs
  cases g2:jL s with
  |true=>
   rw[g2]at c2;refine acO qg8 ?_;simp (disch:=omega) only[qkC,go_sem]
   repeat' first
    |((first|refine cA (c1 _) ?_ ?_|refine cA (c2 _) ?_ ?_);exact flk;simp (disch:=omega) only[go_sem])
    |(apply qd;exact rvk;simp only[go_sem];exact qj)
    |with_reducible apply aiA
   all_goals try exact clz
  |false=>
   rw[g2]at c2;refine acO qg8 ?_;simp (disch:=omega) only[qkC,go_sem]
   repeat' first
    |((first|refine cA (c1 _) ?_ ?_|refine cA (c2 _) ?_ ?_);exact flk;simp (disch:=omega) only[go_sem])
    |(apply qd;exact rvk;simp only[go_sem];exact qj)
    |with_reducible apply aiA
   all_goals try exact clz
def qa9(f:Nat→Int):Nat→Nat→Int
 |_,0=>0
 |i,k+1=>if f i≠0 then f i else qa9 f (i+1) k
theorem qe0{f:Nat→Int}{n i:Nat}(hi:i≤n)(h: ∀j,j<i→f j=0):qa9 f 0 n=qa9 f i (n-i):=by
 induction i with
 |zero=>rfl
 |succ i ih=>
  rw[ih (by omega) (fun j hj=>h j (by omega)),show n-i=(n-(i+1))+1 by omega];simp only[qa9,h i (by omega),ne_eq,not_true_eq_false,if_false]
theorem zC{f:Nat→Int}{n i:Nat}(hi:i<n)(h: ∀j,j<i→f j=0)(hp:f i≠0):qa9 f 0 n=f i:=by
 rw[qe0 (by omega) h,show n-i=(n-i-1)+1 by omega];simp only[qa9];rw[ipo hp]
theorem qI{f:Nat→Int}{n:Nat}(h: ∀j,j<n→f j=0):qa9 f 0 n=0:=by
 rw[qe0 (nlr n) h,Nat.sub_self];rfl
theorem jo{f:Nat→Int}{n:Nat}:qa9 f 0 n=0↔ ∀j,j<n→f j=0:=by
 refine⟨fun h=> ?_,qI⟩;intro j
 induction j using Nat.strongRecOn with
 |_ j ih=>
  intro hj
  by_cases e:f j=0
  ·exact e
  ·rw[zC hj (fun k hk=>ih k hk (by omega)) e]at h;exact absurd h e
def qen(b:Int)(l:List Int)(i:Nat):Int:=if l.getD i 0<0∨b≤l.getD i 0 then 2 else if 0<i∧l.getD i 0≤l.getD (i-1) 0 then 10 else 0
def qdn(b:Int)(l:List Int):Int:=qa9 (qen b l) 0 l.length
theorem qC5(l:List Int)(b:Int)(h:List AObj)(hl:l.length≤1000000000):ACalls Tryz.prog 189 [qn l,.int .i64 b] h (.int .i64 (qdn b l)) h:=by
 obtain⟨R,hR⟩: ∃R,R=qdn b l:=⟨_,rfl⟩
 rw[←hR];unfold qdn at hR;refine acO qyg ?_;simp (disch:=omega) only[qwJ,qn,go_sem];refine qp (T:=fun i:Nat=>qQ 33 [(0,qn l),(1,.int .i64 b),(7,qn l),(8,.int .i64 l.length),(9,.int .i64 i)]) (H:=fun _=>h) (inv:=fun i=>i≤l.length∧ ∀j,j<i→qen b l j=0) (m:=fun i=>l.length-i) 0 ⟨nzl _,fun j hj=>by omega⟩ (Wk.temps ?_) ?_
 ·(simp only[qn,go_sem,qi,qe,qa,qh];try (repeat' first|(with_reducible apply aiA)|(apply qg;omega)|(apply qf;rfl)|exact qj))
 rintro i ⟨i1,i2⟩ K hK
 by_cases hi:i<l.length
 ·have k1:((i:Int)<l.length)=True:=eqt (by omega);have hE:=zC (n:=l.length) hi i2;rw[←hR]at hE;unfold qen at hE;have hs:qen b l i=if l.getD i 0<0∨b≤l.getD i 0 then 2 else if 0<i∧l.getD i 0≤l.getD (i-1) 0 then 10 else 0:=rfl
  obtain⟨v,hv⟩: ∃v,v=l.getD i 0:=⟨_,rfl⟩
  obtain⟨u,hu⟩: ∃u,u=l.getD (i-1) 0:=⟨_,rfl⟩
  have ev:=hv.symm;have eu:=hu.symm;rw[ev,eu]at hE hs
  by_cases g1:v<0
  ·have q1:(v<0)=True:=eqt g1;have hV:R=2:=by rw[hE]<;>rw[ipo (.inl g1)];decide
   rw[hV];simp (disch:=omega) only[qn,k1,ev,q1,go_sem]
   repeat' first
    |(apply qd;exact rvk;simp only[go_sem];exact qj)
    |with_reducible apply aiA
   all_goals try exact clz
  have q1:(v<0)=False:=eqf g1
  by_cases g2:b≤v
  ·have q2:(b≤v)=True:=eqt g2;have hV:R=2:=by rw[hE]<;>rw[ipo (.inr g2)];decide
   rw[hV];simp (disch:=omega) only[qn,k1,ev,q1,q2,go_sem]
   repeat' first
    |(apply qd;exact rvk;simp only[go_sem];exact qj)
    |with_reducible apply aiA
   all_goals try exact clz
  have q2:(b≤v)=False:=eqf g2;rw[ine (by rintro (h|h)<;>contradiction)]at hE hs
  by_cases g3:0<i
  ·have q3:((0:Int)<i)=True:=eqt (by omega);have q4:((i:Int)-1).toNat=i-1:=by omega
   have q5:(0≤(i:Int)-1)=True:=eqt (by omega);have q6:((i:Int)-1<l.length)=True:=eqt (by omega)
   by_cases g4:v≤u
   ·have q7:(v≤u)=True:=eqt g4;have hV:R=10:=by rw[hE]<;>rw[ipo ⟨g3,g4⟩];decide
    rw[hV];simp (disch:=omega) only[qn,k1,ev,eu,q1,q2,q3,q4,q5,q6,q7,go_sem]
    repeat' first
     |(apply qd;exact rvk;simp only[go_sem];exact qj)
     |with_reducible apply aiA
    all_goals try exact clz
   ·have q7:(v≤u)=False:=eqf g4;rw[ine (fun hc=>g4 hc.2)]at hs;simp (disch:=omega) only[qn,k1,ev,eu,q1,q2,q3,q4,q5,q6,q7,go_sem]
    repeat' first
     |with_reducible apply aiA
    all_goals try exact clz
    refine hK _ _ (i+1) ⟨hi,fun j hj=> ?_⟩ (by omega) (Wk.temps ?_)
    ·by_cases e:j=i
     ·subst e;exact hs
     ·exact i2 j (by omega)
    ·(simp only[qn,go_sem,qi,qe,qa,qh];try (repeat' first|(with_reducible apply aiA)|(apply qg;omega)|(apply qf;rfl)|exact qj))
  ·have q3:((0:Int)<i)=False:=eqf (by omega);rw[ine (fun hc=>g3 hc.1)]at hs;simp (disch:=omega) only[qn,k1,ev,q1,q2,q3,go_sem]
   repeat' first
    |(apply qd;exact rvk;simp only[go_sem];apply qg)
    |with_reducible first|intro _|apply aiA
   all_goals try exact clz
   refine hK _ _ (i+1) ⟨hi,fun j hj=> ?_⟩ (by omega) (Wk.temps ?_)
   ·by_cases e:j=i
    ·subst e;exact hs
    ·exact i2 j (by omega)
   ·(simp only[qn,go_sem,qi,qe,qa,qh];try (repeat' first|(with_reducible apply aiA)|(apply qg;omega)|(apply qf;rfl)|exact qj))
 ·have k1:((i:Int)<l.length)=False:=eqf (by omega);have hV:R=0:=by rw[hR,qI (fun j hj=>i2 j (by omega))]
  rw[hV];simp (disch:=omega) only[qn,k1,go_sem]
  repeat' first
   |(apply qd;exact rvk;simp only[go_sem];exact qj)
structure Gr where
 name:Str
 mem:List Int
 deriving Inhabited
def grC(g:Gr):List AV:= [.str g.name,qn g.mem]
def qL(gs:List Gr):AV:= .sl gs.length fun i=>grC (gs.getD i default)
def jM(names:List Str)(i:Nat):Int:=if qqB (names.getD i [])=false then 14 else if qZ (fun j=>decide (names.getD i []=names.getD j [])) i=true then 7 else 0
def qe3(names:List Str)(gs:List Gr)(i:Nat):Int:=
 if jL (gs.getD i default).name=false then 14 else if qZ (fun j=>decide ((gs.getD i default).name=names.getD j [])) names.length=true then 7 else
  if qZ (fun j=>decide ((gs.getD i default).name=(gs.getD j default).name)) i=true then 7 else if (gs.getD i default).mem.length=0 then 5 else qdn names.length (gs.getD i default).mem
def sgE(names:List Str)(gs:List Gr):Int:=
 if 32<names.length then 4 else if qa9 (jM names) 0 names.length≠0 then qa9 (jM names) 0 names.length else if 16<gs.length then 4 else qa9 (qe3 names gs) 0 gs.length
theorem qzt(n:Nat)(g:Nat→Str)(x:Str)(h:List AObj)(hn:n≤1000000000):ACalls Tryz.prog 117 [.sl n (fun j=> [.str (g j)]),.str x] h (.int .i64 (qam (fun j=>decide (x=g j)) n 0)) h:=by
 have:=qBP qxW n (fun j=> .s (g j)) (.s x) h (fun _ _=>rfl) (by omega)
 simpa only[At.v,At.s.injEq] using this
theorem qk8(n:Nat)(g:Nat→Str)(x:Str)(h:List AObj)(hn:n≤1000000000):ACalls Tryz.prog 43 [.sl n (fun j=> [.str (g j)]),.str x] h (.bool (qZ (fun j=>decide (x=g j)) n)) h:=
 qib qBs ⟨rfl,rfl⟩ ⟨rfl,rfl⟩ (qzt n g x h hn)
theorem qDq(x:Gr)(y:Str)(c:AV)(h:List AObj):ACalls Tryz.prog 188 [.agg (grC x),.ip [.str y,c]] h (.bool (decide (y=x.name))) h:=by
 have k:decide (x.name=y)=decide (y=x.name):=decide_eq_decide.2 ⟨Eq.symm,Eq.symm⟩;refine acO qyf ?_;simp (disch:=omega) only[qwI,grC,go_sem]
 repeat' first
  |(apply qb;exact rvk;simp only[go_sem];apply qf)
 all_goals try exact clz
end RC
end
section
namespace AF
open Go
theorem Wk.kill{t:List AV}{h:List AObj}{k v:Nat}{ty:TypeId}{cs:List AV}(hk:getO k h=some (.mem v ty cs)):Wk t h t (setO k h (.emp (v+1))):=by
 intro N w σ a H;have hkl:k<σ.length:=by rw[H.hr.len];exact jp hk
 have ho:=qY hkl;obtain⟨m1,_⟩:=H.hr.obj k _ _ hk ho;obtain⟨g1,g2⟩:=H.hr.kill ho;rw[m1]at g1 g2;exact⟨_,⟨g1,H.sz,fun i c x hc hx=>(H.tm i c x hc hx).ext g2,qaV g2 H.df⟩,g2⟩
theorem Wk.kill0{t:List AV}{h l:List AObj}{v:Nat}{ty:TypeId}{cs:List AV}:Wk t (h++ .mem v ty cs::l) t (h++ .emp (v+1)::l):=by
 have:=Wk.kill (t:=t) (h:=h++ .mem v ty cs::l) (k:=h.length) (v:=v) (ty:=ty) (cs:=cs) (by rw[getO_app0];rfl)
 rwa [setO_app0]at this
end AF
end
section
open Go Go.Proofs AF HY LN
namespace RC
theorem qDk(n:Nat)(gs:List Gr)(y:Str)(k v:Nat)(c:AV)(h:List AObj)(hk:getO k h=some (.mem v 167 [.str y,c]))(hn:n≤gs.length)(hl:gs.length≤1000000000):
  ACalls Tryz.prog 187 [.sl n (fun j=>grC (gs.getD j default)),.fn (.func 188) [] [.op k v 0]] h (.bool (qZ (fun j=>decide (y=(gs.getD j default).name)) n)) h:=by
 have hc:=qU hk;refine qib qye ⟨rfl,rfl⟩ ⟨rfl,rfl⟩ (qaO qru n (fun j=>grC (gs.getD j default)) (fun j=> .agg (grC (gs.getD j default))) _ [] [.op k v 0] _ h (fun i _=>⟨rfl,by simp[zZ,grC],rfl,rfl,rfl⟩) (fun i _=> ?_) (by omega));refine ACalls.borrow ?_ rfl;have e:([AV.agg (grC (gs.getD i default))]++ [AV.op k v 0]).map (rei (fun _=>true) h 8)= [.agg (grC (gs.getD i default)),.ip [rei (fun _=>true) h 7 (.str y),rei (fun _=>true) h 7 c]]:=by
  simp only[List.cons_append,List.nil_append,List.map_cons,List.map_nil,rei_op,if_true,hc,ipOf_some,List.drop_zero,rei_agg];rfl
 rw[List.nil_append,e];exact qDq _ y _ _
theorem qhR{p q:Nat→Bool}{n:Nat}(h: ∀i,i<n→p i=q i):qZ p n=qZ q n:=by
 cases e:qZ q n with
 |true=>obtain⟨i,h1,h2⟩:=qy.1 e;exact qy.2 ⟨i,h1,by rw[h i h1,h2]⟩
 |false=>exact ql.2 fun i hi=>by rw[h i hi];exact ql.1 e i hi
structure Szs (names:List Str) (gs:List Gr):Prop where
 n:names.length≤1000000000
 g:gs.length≤1000000000
 ns: ∀i,(names.getD i []).length≤1000000000
 gn: ∀i,(gs.getD i default).name.length≤1000000000
 gm: ∀i,(gs.getD i default).mem.length≤1000000000
set_option maxHeartbeats 4000000 in
theorem sgP(names:List Str)(gs:List Gr)(h:List AObj)(hz:Szs names gs):ACalls Tryz.prog 122 [strs names,qL gs] h (.int .i64 (sgE names gs)) h:=by
 obtain⟨z1,z2,z3,z4,z5⟩:=hz;obtain⟨R,hR⟩: ∃R,R=sgE names gs:=⟨_,rfl⟩
 rw[←hR];unfold sgE at hR
 by_cases g0:32<names.length
 ·have k0:((32:Int)<names.length)=True:=eqt (by omega);rw[ipo g0]at hR;rw[hR];refine acO qrt ?_;simp (disch:=omega) only[qsE,strs,qL,k0,go_sem]
  repeat' first
   |(apply qb;exact rvk;simp only[go_sem];exact qj)
 have k0:((32:Int)<names.length)=False:=eqf (by omega);rw[ine g0]at hR;refine acO qrt ?_;simp (disch:=omega) only[qsE,strs,qL,k0,go_sem];refine qp (T:=fun i:Nat=>qQ 70 [(0,strs names),(1,qL gs),(13,strs names),(14,.int .i64 names.length),(15,.int .i64 i)]) (H:=fun _=>h++ [.emp 0]) (inv:=fun i=>i≤names.length∧ ∀j,j<i→jM names j=0) (m:=fun i=>names.length-i) 0 ⟨nzl _,fun j hj=>by omega⟩ (Wk.temps ?_) ?_
 ·(simp only[strs,qL,go_sem,qi,qe,qa,qh];try (repeat' first|(with_reducible apply aiA)|(apply qg;omega)|(apply qf;rfl)|exact qj))
 rintro i ⟨i1,i2⟩ K hK
 by_cases hi:i<names.length
 ·have k1:((i:Int)<names.length)=True:=eqt (by omega);have k2:((i:Int)≤names.length)=True:=eqt (by omega);have hE:=zC (f:=jM names) hi i2;have hs:jM names i=if qqB (names.getD i [])=false then 14 else if qZ (fun j=>decide (names.getD i []=names.getD j [])) i=true then 7 else 0:=rfl
  have c87:=fun h=>qB9 (names.getD i []) h (z3 i)
  have c88:=fun h=>qk8 i (fun j=>names.getD j []) (names.getD i []) h (by omega)
  obtain⟨s,hsx⟩: ∃s,s=names.getD i []:=⟨_,rfl⟩
  have es:=hsx.symm;rw[es]at hs c87;simp only[es]at hs c88;cases g1:qqB s with
  |false=>
   rw[g1]at c87;rw[ipo g1]at hs;have hV:R=14:=by rw[hR,hE (by rw[hs];decide),hs];rfl
   rw[hV];simp (disch:=omega) only[strs,qL,k1,es,go_sem]
   repeat' first
    |(refine cA (c87 _) flk ?_;simp (disch:=omega) only[k2,go_sem])
    |(apply qb;exact rvk;simp only[go_sem];exact qj)
    |with_reducible apply aiA
   all_goals try exact clz
  |true=>
  rw[g1]at c87;rw[ine (by rw[g1];simp)]at hs;cases g2:qZ (fun j=>decide (s=names.getD j [])) i with
  |true=>
   rw[g2]at c88;rw[ipo g2]at hs;have hV:R=7:=by rw[hR,hE (by rw[hs];decide),hs];rfl
   rw[hV];simp (disch:=omega) only[strs,qL,k1,es,go_sem]
   repeat' first
    |((first|refine cA (c87 _) ?_ ?_|refine cA (c88 _) ?_ ?_);exact flk;simp (disch:=omega) only[k2,Nat.sub_zero,go_sem])
    |(apply qb;exact rvk;simp only[go_sem];exact qj)
    |with_reducible apply aiA
   all_goals try exact clz
  |false=>
   rw[g2]at c88;rw[ine (by rw[g2];simp)]at hs;simp (disch:=omega) only[strs,qL,k1,es,go_sem]
   repeat' first
    |((first|refine cA (c87 _) ?_ ?_|refine cA (c88 _) ?_ ?_);exact flk;simp (disch:=omega) only[k2,Nat.sub_zero,go_sem])
    |with_reducible apply aiA
   all_goals try exact clz
   refine hK _ _ (i+1) ⟨hi,fun j hj=> ?_⟩ (by omega) (Wk.temps ?_)
   ·by_cases e:j=i
    ·subst e;exact hs
    ·exact i2 j (by omega)
   ·(simp only[strs,qL,go_sem,qi,qe,qa,qh];try (repeat' first|(with_reducible apply aiA)|(apply qg;omega)|(apply qf;rfl)|exact qj))
 have k1:((i:Int)<names.length)=False:=eqf (by omega);have hn0:=qI (f:=jM names) (fun j (hj:j<names.length)=>i2 j (by omega));rw[ine (fun hc=>hc hn0)]at hR
 by_cases g1:16<gs.length
 ·have k2:((16:Int)<gs.length)=True:=eqt (by omega);rw[ipo g1]at hR;rw[hR];simp (disch:=omega) only[strs,qL,k1,k2,go_sem]
  repeat' first
   |(apply qb;exact rvk;simp only[go_sem];exact qj)
 have k2:((16:Int)<gs.length)=False:=eqf (by omega);rw[ine g1]at hR;simp (disch:=omega) only[strs,qL,k1,k2,go_sem];refine qp (T:=fun i:Nat×Nat=>qQ 70 [(0,strs names),(1,qL gs),(32,qL gs),(33,.int .i64 gs.length),(34,.int .i64 i.1)]) (H:=fun i=>h++ [.emp i.2]) (inv:=fun i=>i.1≤gs.length∧ ∀j,j<i.1→qe3 names gs j=0) (m:=fun i=>gs.length-i.1) (0,0) ⟨nzl _,fun j hj=>absurd hj (nnz j)⟩ (Wk.temps ?_) ?_
 ·(simp only[strs,qL,go_sem,qi,qe,qa,qh];try (repeat' first|(with_reducible apply aiA)|(apply qg;omega)|(apply qf;rfl)|exact qj))
 rintro⟨i,v⟩ ⟨i1,i2⟩ K hK;simp only at i1 i2 hK
 by_cases hi:i<gs.length
 ·have k3:((i:Int)<gs.length)=True:=eqt (by omega);have k4:((i:Int)≤gs.length)=True:=eqt (by omega);have hE:=zC (f:=qe3 names gs) hi i2;have hs:qe3 names gs i=if jL (gs.getD i default).name=false then 14 else if qZ (fun j=>decide ((gs.getD i default).name=names.getD j [])) names.length=true then 7 else
   if qZ (fun j=>decide ((gs.getD i default).name=(gs.getD j default).name)) i=true then 7 else if (gs.getD i default).mem.length=0 then 5 else qdn names.length (gs.getD i default).mem:=rfl
  have z4i:=z4 i;have z5i:=z5 i;obtain⟨g,hg⟩: ∃g,g=gs.getD i default:=⟨_,rfl⟩
  have eg:=hg.symm;simp only[eg]at hs z4i z5i;have c89:=fun h=>t44 g.name h z4i
  have c88:=fun h=>qk8 names.length (fun j=>names.getD j []) g.name h z1
  have c90:=fun h hk=>qDk i gs g.name (List.length h) (v+1) (qn g.mem) (h++ [.mem (v+1) 167 (grC g)]) hk (by omega) z2
  have c90:=c90 h (by rw[getO_app0];rfl);have c92:=fun h=>qC5 g.mem names.length h z5i
  cases g2:jL g.name with
  |false=>
   rw[g2]at c89;rw[ipo g2]at hs;have hV:R=14:=by rw[hR,hE (by rw[hs];decide),hs]
   rw[hV];simp (disch:=omega) only[strs,qL,grC,qn,k3,eg,go_sem]
   repeat' first
    |(refine cA (c89 _) flk ?_;simp (disch:=omega) only[go_sem])
    |(apply qb;exact rvk;simp only[go_sem];exact qj)
    |with_reducible apply aiA
   all_goals try exact clz
  |true=>
  rw[g2]at c89;rw[ine (by rw[g2];simp)]at hs;cases g3:qZ (fun j=>decide (g.name=names.getD j [])) names.length with
  |true=>
   rw[g3]at c88;rw[ipo g3]at hs;have hV:R=7:=by rw[hR,hE (by rw[hs];decide),hs]
   rw[hV];simp (disch:=omega) only[strs,qL,grC,qn,k3,eg,go_sem]
   repeat' first
    |(refine qk ( .bool false) ?_;simp (disch:=omega) only[go_sem])
    |((first|refine cA (c89 _) ?_ ?_|refine cA (c88 _) ?_ ?_);exact flk;simp (disch:=omega) only[k4,go_sem])
    |(apply qb;exact rvk;simp only[go_sem];exact qj)
    |with_reducible apply aiA
   all_goals try exact clz
  |false=>
  rw[g3]at c88;rw[ine (by rw[g3];simp)]at hs;cases g4:qZ (fun j=>decide (g.name=(gs.getD j default).name)) i with
  |true=>
   rw[g4]at c90;rw[ipo g4]at hs;have hV:R=7:=by rw[hR,hE (by rw[hs];decide),hs]
   rw[hV];simp only[grC,qn]at c90;simp (disch:=omega) only[strs,qL,grC,qn,k3,eg,go_sem]
   repeat' first
    |((first|refine cA (c89 _) ?_ ?_|refine cA (c88 _) ?_ ?_|refine cG (fun e=>c90) ?_ ?_);exact flk;simp (disch:=omega) only[k4,Nat.sub_zero,go_sem])
    |(apply qb;exact rvk;simp only[go_sem];exact qj)
    |with_reducible apply aiA
   all_goals try exact clz
  |false=>
  rw[g4]at c90;rw[ine (by rw[g4];simp)]at hs;simp only[grC,qn]at c90
  by_cases g5:g.mem.length=0
  ·have k5:((g.mem.length:Int)=0)=True:=eqt (by omega);rw[ipo g5]at hs;have hV:R=5:=by rw[hR,hE (by rw[hs];decide),hs]
   rw[hV];simp (disch:=omega) only[strs,qL,grC,qn,k3,eg,go_sem]
   repeat' first
    |((first|refine cA (c89 _) ?_ ?_|refine cA (c88 _) ?_ ?_|refine cG (fun e=>c90) ?_ ?_);exact flk;simp (disch:=omega) only[k4,Nat.sub_zero,k5,go_sem])
    |(apply qb;exact rvk;simp only[go_sem];exact qj)
    |with_reducible apply aiA
   all_goals try exact clz
  have k5:((g.mem.length:Int)=0)=False:=eqf (by omega);rw[ine g5]at hs;unfold qn at c92;obtain⟨e,he⟩: ∃e,e=qdn names.length g.mem:=⟨_,rfl⟩
  rw[←he]at c92 hs
  by_cases g6:e=0
  ·have k6:(e=0)=True:=eqt g6;simp (disch:=omega) only[strs,qL,grC,qn,k3,eg,go_sem]
   repeat' first
    |((first|refine cA (c89 _) ?_ ?_|refine cA (c88 _) ?_ ?_|refine cG (fun e=>c90) ?_ ?_|refine cA (c92 _) ?_ ?_);exact flk;simp (disch:=omega) only[k4,Nat.sub_zero,k5,k6,go_sem])
    |with_reducible apply aiA
   all_goals try exact clz
   refine hK _ _ (i+1,v+1+1) ⟨hi,fun j hj=> ?_⟩ (by simp only;omega) (Wk.trans Wk.kill0 (Wk.temps ?_))
   ·by_cases e':j=i
    ·subst e';rw[hs,g6]
    ·exact i2 j (by simp only at hj;omega)
   ·(simp only[strs,qL,go_sem,qi,qe,qa,qh];try (repeat' first|(with_reducible apply aiA)|(apply qg;omega)|(apply qf;rfl)|exact qj))
  ·have k6:(e=0)=False:=eqf g6;have hV:R=e:=by rw[hR,hE (by rw[hs];exact g6),hs]
   rw[hV];simp (disch:=omega) only[strs,qL,grC,qn,k3,eg,go_sem]
   repeat' first
    |((first|refine cA (c89 _) ?_ ?_|refine cA (c88 _) ?_ ?_|refine cG (fun e=>c90) ?_ ?_|refine cA (c92 _) ?_ ?_);exact flk;simp (disch:=omega) only[k4,Nat.sub_zero,k5,k6,go_sem])
    |(apply qb;exact rvk;simp only[go_sem];exact qj)
    |with_reducible apply aiA
   all_goals try exact clz
 ·have k3:((i:Int)<gs.length)=False:=eqf (by omega);rw[qI (fun j (hj:j<gs.length)=>i2 j (by omega))]at hR;rw[hR];simp (disch:=omega) only[strs,qL,k3,go_sem]
  repeat' first
   |(apply qb;exact rvk;simp only[go_sem];exact qj)
theorem _root_.AF.Wk.kill2{t:List AV}{h l:List AObj}{a b:AObj}{v:Nat}{ty:TypeId}{cs:List AV}:Wk t (h++a::b:: .mem v ty cs::l) t (h++a::b:: .emp (v+1)::l):=by
 have:=Wk.kill0 (t:=t) (h:=h++ [a,b]) (l:=l) (v:=v) (ty:=ty) (cs:=cs)
 simpa using this
theorem qbB{n:Int}(h0:0≤n)(h1:n<18446744073709551616):IntKind.u64.wrap n=n:=by
 have e1:(2:Int)^IntKind.bits IntKind.u64=18446744073709551616:=by decide
 have e3:IntKind.signed IntKind.u64=false:=rfl;unfold IntKind.wrap;rw[e1,e3];simp only[Bool.false_and,Bool.false_eq_true,if_false];omega
theorem kU(a:Nat):BitVec.ofInt 64 (a:Int)=BitVec.ofNat 64 a:=by simp
theorem qhp{a b:Nat}(ha:a<2^64)(hb:b<2^64):orK .u64 (a:Int) (b:Int)=((a|||b:Nat):Int):=by
 have hab:a|||b<2^64:=Nat.or_lt_two_pow ha hb;unfold orK;rw[show IntKind.bits IntKind.u64=64 from rfl,kU,kU,BitVec.toNat_or,BitVec.toNat_ofNat,BitVec.toNat_ofNat,Nat.mod_eq_of_lt ha,Nat.mod_eq_of_lt hb];exact qbB (by omega) (by omega)
theorem qsq{a b:Nat}(ha:a<2^64)(hb:b<2^64):qsp .u64 (a:Int) (b:Int)=((a&&&b:Nat):Int):=by
 have hab:a&&&b<2^64:=Nat.lt_of_le_of_lt Nat.and_le_left ha;unfold qsp;rw[show IntKind.bits IntKind.u64=64 from rfl,kU,kU,BitVec.toNat_and,BitVec.toNat_ofNat,BitVec.toNat_ofNat,Nat.mod_eq_of_lt ha,Nat.mod_eq_of_lt hb];exact qbB (by omega) (by omega)
theorem qgl{n:Nat}(hn:n<64):qB6 .u64 1 (n:Int)=((2^n:Nat):Int):=by
 unfold qB6;rw[show IntKind.bits IntKind.u64=64 from rfl,Int.toNat_natCast,Nat.min_eq_left (by omega)];have h2:(2:Nat)^n<2^64:=Nat.pow_lt_pow_right (by omega) hn;rw[Int.one_mul,show ((2:Int)^n)=((2^n:Nat):Int) by simp];exact qbB (Int.natCast_nonneg _) (Int.ofNat_lt.2 (show 2^n<18446744073709551616 from h2))
theorem qu0{a n:Nat}(hn:n<64):qAT .u64 (a:Int) (n:Int)=((a>>>n:Nat):Int):=by
 unfold qAT;rw[show IntKind.bits IntKind.u64=64 from rfl,Int.toNat_natCast,Nat.min_eq_left (by omega),Nat.shiftRight_eq_div_pow,show ((2:Int)^n)=((2^n:Nat):Int) by simp,Int.fdiv_eq_ediv_of_nonneg _ (Int.natCast_nonneg _)];rfl
theorem qku{a n:Nat}(ha:a<2^64)(hn:n<64):qsp .u64 (qAT .u64 (a:Int) (n:Int)) 1=if a.testBit n=true then 1 else 0:=by
 rw[qu0 hn,show (1:Int)=((1:Nat):Int)from rfl,qsq (Nat.lt_of_le_of_lt (by rw[Nat.shiftRight_eq_div_pow];exact Nat.div_le_self _ _) ha) (by decide)]
 have:(a>>>n)&&&1=(a.testBit n).toNat:=by rw[Nat.testBit];simp[Nat.and_comm 1];rcases Nat.mod_two_eq_zero_or_one (a>>>n)with h|h<;>simp[h]
 rw[this];cases a.testBit n<;>rfl
def jA(l:List Int):Nat:=l.foldl (fun a n=>a|||2^n.toNat) 0
def inB(b:Int)(l:List Int):Prop:= ∀i,i<l.length→0≤l.getD i 0∧l.getD i 0<b
theorem qr1(l:List Int): ∀a:Nat,a<2^64→(∀n∈l,0≤n∧n<64)→l.foldl (fun a n=>a|||2^n.toNat) a<2^64∧ ∀i,(l.foldl (fun a n=>a|||2^n.toNat) a).testBit i=(a.testBit i||decide ((i:Int)∈l)):=by
 induction l with
 |nil=>intro a ha _;exact⟨ha,fun i=>by simp⟩
 |cons n l ih=>
  intro a ha hl;have hn:=hl n (by simp);obtain⟨h1,h2⟩:=ih (a|||2^n.toNat) (Nat.or_lt_two_pow ha (Nat.pow_lt_pow_right (by omega) (by omega))) (fun m hm=>hl m (by simp[hm]));refine⟨h1,fun i=> ?_⟩;rw[List.foldl_cons,h2 i,Nat.testBit_or,Nat.testBit_two_pow]
  by_cases e:(i:Int)=n
  ·have e':n.toNat=i:=by omega
   simp[e,e']
  ·have e': ¬n.toNat=i:=by omega
   simp[e,e']
theorem jQ{l:List Int}{b:Int}(h:inB b l): ∀n∈l,0≤n∧n<b:=by
 intro n hn;obtain⟨i,hi,e⟩:=List.getElem_of_mem hn
 have:=h i hi
 rw[gdqA,qY hi]at this;rw[←e];exact this
theorem qca{l:List Int}(h:inB 64 l):jA l<2^64:=(qr1 l 0 (by decide) (jQ h)).1
theorem jG{l:List Int}(h:inB 64 l)(i:Nat):(jA l).testBit i=decide ((i:Int)∈l):=by
 have:=(qr1 l 0 (by decide) (jQ h)).2 i
 rw[Nat.zero_testBit,Bool.false_or]at this;exact this
theorem qpA{l:List Int}{b:Int}{i:Nat}(h:inB b l)(hi:i≤l.length):inB b (l.take i):=by
 intro j hj;rw[List.length_take]at hj
 have:=h j (by omega)
 rw[gdqA,List.getElem?_take,ipo (by omega),←gdqA];exact this
theorem qpK{l:List Int}{i:Nat}(hi:i<l.length):jA (l.take (i+1))=jA (l.take i)|||2^(l.getD i 0).toNat:=by
 unfold jA;rw[List.take_add_one,qY hi,List.foldl_append,gdqA,qY hi];rfl
theorem qAQ(l:List Int)(h:List AObj)(hl:l.length≤1000000000)(hb:inB 64 l):ACalls Tryz.prog 125 [qn l] h (.int .u64 (jA l:Int)) h:=by
 refine acO qxZ ?_;simp (disch:=omega) only[qwv,qn,go_sem];refine qp (T:=fun i:Nat=>qQ 18 [(3,.int .u64 (jA (l.take i):Int)),(6,qn l),(7,.int .i64 l.length),(8,.int .i64 i)]) (H:=fun _=>h) (inv:=fun i=>i≤l.length) (m:=fun i=>l.length-i) 0 (nzl _) (Wk.temps ?_) ?_
 ·(simp only[qn,go_sem,qi,qe,qa,qh];try (repeat' first|(with_reducible apply aiA)|(apply qg;omega)|(apply qf;rfl)|exact qj))
 rintro i i1 K hK
 by_cases hi:i<l.length
 ·have k1:((i:Int)<l.length)=True:=eqt (by omega);have hv:=hb i hi;have hst:=qpK hi;obtain⟨v,hv'⟩: ∃v,v=l.getD i 0:=⟨_,rfl⟩
  have ev:=hv'.symm;rw[ev]at hv hst;obtain⟨u,rfl⟩: ∃u:Nat,v=(u:Int):=⟨v.toNat,by omega⟩
  rw[Int.toNat_natCast]at hst;have k2:(0≤(u:Int))=True:=eqt (by omega);have e1:=qgl (n:=u) (by omega);have hm:=qca (qpA hb i1);have h2:(2:Nat)^u<2^64:=Nat.pow_lt_pow_right (by omega) (by omega);have e2:=qhp hm h2;simp (disch:=omega) only[qn,k1,k2,ev,e1,e2,go_sem]
  repeat' first
   |with_reducible apply aiA
  all_goals try exact clz
  refine hK _ _ (i+1) hi (by omega) (Wk.temps ?_);rw[hst]
  (simp only[qn,go_sem,qi,qe,qa,qh];try (repeat' first|(with_reducible apply aiA)|(apply qg;omega)|(apply qf;rfl)|exact qj))
 ·have k1:((i:Int)<l.length)=False:=eqf (by omega);have e:i=l.length:=by omega
  subst e;rw[List.take_length];simp (disch:=omega) only[qn,k1,go_sem]
  repeat' first
   |(apply qd;exact rvk;simp only[go_sem];exact qj)
def zD(p:Nat→Bool)(k:Nat):List Int:=((List.range k).filter p).map Int.ofNat
theorem qbs(p:Nat→Bool)(k:Nat):zD p (k+1)=zD p k++if p k=true then [(k:Int)] else []:=by
 unfold zD;rw[List.range_succ,List.filter_append,List.map_append];congr 1;rw[List.filter_cons];split<;>rfl
theorem zk(p:Nat→Bool)(k:Nat):(zD p k).length≤k:=by
 unfold zD;rw[List.length_map];exact Nat.le_trans (List.length_filter_le _ _) (by simp)
def qx(L:List Int):List AV:=L.map fun n=> .int .i64 n
theorem qT(L:List Int):(qx L).length=L.length:=by simp[qx]
theorem jh(L M:List Int):qx (L++M)=qx L++qx M:=by simp[qx]
theorem qe8{L:List Int}:qx L= []↔L= []:=by simp[qx]
theorem qe9{L:List Int}{n:Nat}(g:AV→AV)(hg: ∀n,g (.int .i64 n)= .int .i64 n)(hn:n=L.length):VLe (.sl n fun i=>(((qx L).drop i).take 1).map g) (qn L):=by
 subst hn;refine VLe.sl_eq rfl (fun i hi=> ?_);unfold qx;rw[←List.map_drop,List.drop_eq_getElem_cons hi,List.map_cons,List.take_succ_cons,List.take_zero,List.map_cons,List.map_nil,hg,gdqA,qY hi];rfl
set_option maxHeartbeats 2000000 in
theorem qBW(m:Nat)(h:List AObj)(hm:m<2^64):ACalls Tryz.prog 126 [.int .u64 (m:Int)] h (qn (zD m.testBit 64)) h:=by
 refine acO qx0 ?_;simp (disch:=omega) only[qww,go_sem];refine qp (T:=fun i:Nat×Nat×Nat=>qQ 19 [(0,.int .u64 (m:Int)),(3,.osl (h.length+1) i.2.1 1 0 (zD m.testBit i.1).length),(5,.int .i64 i.1)]) (H:=fun i=>h++ [.emp 1,zP i.2.1 3 (qx (zD m.testBit i.1)),.emp i.2.2,.emp 0])
  (inv:=fun i=>i.1≤64) (m:=fun i=>64-i.1) (0,1,0) (nzl _) (Wk.temps ?_) ?_
 ·(simp only[zD,List.range_zero,List.filter_nil,List.length_nil,go_sem,qi,qe,qa,qh];try (repeat' first|(with_reducible apply aiA)|(apply qg;omega)|(apply qf;rfl)|exact qj))
 rintro⟨i,v,w⟩ i1 K hK;simp only at i1 hK;have hst:=qbs m.testBit i;have hln:=zk m.testBit i;obtain⟨L,hL⟩: ∃L,L=zD m.testBit i:=⟨_,rfl⟩
 rw[←hL]at hst hln;have eL:=hL.symm;have eC:=qT L
 by_cases hi:i<64
 ·have k1:((i:Int)<64)=True:=eqt (by omega);have k2:(0≤(i:Int))=True:=eqt (by omega);have e1:=qku (a:=m) (n:=i) hm hi;cases g:m.testBit i with
  |true=>
   rw[g,ipo rfl]at e1;rw[g,ipo rfl]at hst;have eT:List.take L.length (qx L)=qx L:=ltl (by omega);simp (disch:=omega) only[k1,k2,e1,eL,Nat.mul_one,go_sem]
   repeat' first
    |with_reducible apply aiA
   all_goals try exact clz
   have eA:qx L++ [AV.int .i64 (i:Int)]=qx (L++ [(i:Int)]):=by rw[jh];rfl
   rw[eT,eA];refine hK _ _ (i+1,v+1,w+1+1) hi (by simp only;omega) (Wk.trans Wk.kill2 ?_);simp only[hst];refine Wk.temps ?_
   (simp only[List.length_append,go_sem,qi,qe,qa,qh];try (repeat' first|(with_reducible apply aiA)|(apply qg;omega)|(apply qf;rfl)|exact qj))
  |false=>
   rw[g,ine (by simp)]at e1;rw[g,ine (by simp),List.append_nil]at hst;simp (disch:=omega) only[k1,k2,e1,eL,go_sem]
   repeat' first
    |with_reducible first|intro _|apply aiA
   all_goals try exact clz
   refine hK _ _ (i+1,v,w) hi (by simp only;omega) ?_;simp only[hst];refine Wk.temps ?_
   (simp only[go_sem,qi,qe,qa,qh];try (repeat' first|(with_reducible apply aiA)|(apply qg;omega)|(apply qf;rfl)|exact qj))
 ·have k1:((i:Int)<64)=False:=eqf (by omega);obtain rfl:i=64:=by omega
  rw[←hL]
  by_cases g:L= []
  ·subst g;have e0:zP v 3 (qx [])= .emp v:=rfl;rw[e0];simp (disch:=omega) only[k1,go_sem]
   repeat' first
    |(apply qb;exact rvk;simp only[go_sem])
   exact jX
  ·have e0:zP v 3 (qx L)= .mem v 3 (qx L):=jH (fun e=>g (qe8.1 e));rw[e0];simp (disch:=omega) only[k1,go_sem]
   repeat' first
    |(apply qb;exact rvk;simp only[go_sem])
   rw[ipo (by omega)];refine qe9 _ ?_ rfl;intro n;rfl
theorem qil(L:List Int):(qn L).flag=true:=rfl
theorem qgw(L:List Int):(qn L).strip=qn L:=rfl
theorem qlG{fz:Nat→Bool}{h:List AObj}{n:Nat}(L:List Int):frz fz h (n+1) (qn L)=qn L:=rfl
theorem qmS{fz:Nat→Bool}{h:List AObj}{n:Nat}(L:List Int):rei fz h (n+1) (qn L)=qn L:=rfl
theorem qlx(L:List Str):(strs L).flag=true:=rfl
theorem qjc(L:List Str):(strs L).strip=strs L:=rfl
theorem qpv{fz:Nat→Bool}{h:List AObj}{n:Nat}(L:List Str):frz fz h (n+1) (strs L)=strs L:=rfl
theorem qql{fz:Nat→Bool}{h:List AObj}{n:Nat}(L:List Str):rei fz h (n+1) (strs L)=strs L:=rfl
theorem qlv(L:List Gr):(qL L).flag=true:=rfl
theorem qja(L:List Gr):(qL L).strip=qL L:=rfl
theorem qpu{fz:Nat→Bool}{h:List AObj}{n:Nat}(L:List Gr):frz fz h (n+1) (qL L)=qL L:=rfl
theorem qqk{fz:Nat→Bool}{h:List AObj}{n:Nat}(L:List Gr):rei fz h (n+1) (qL L)=qL L:=rfl
attribute [go_sem] qil qgw qlG qmS qlx qjc qpv qql qlv qja qpu qqk
theorem qDE(x:Gr)(y:Str)(h:List AObj):ACalls Tryz.prog 124 [.agg (grC x),.ip [.str y]] h (.bool (decide (y=x.name))) h:=by
 have k:decide (x.name=y)=decide (y=x.name):=decide_eq_decide.2 ⟨Eq.symm,Eq.symm⟩;refine acO qxY ?_;simp (disch:=omega) only[qwu,grC,go_sem]
 repeat' first
  |(apply qb;exact rvk;simp only[go_sem];apply qf)
  |with_reducible apply aiA
 all_goals try exact clz
theorem qDT(n:Nat)(gs:List Gr)(y:Str)(k v:Nat)(h:List AObj)(hk:getO k h=some (.mem v 9 [.str y]))(hn:n≤gs.length)(hl:gs.length≤1000000000):
  ACalls Tryz.prog 123 [.sl n (fun j=>grC (gs.getD j default)),.fn (.func 124) [] [.op k v 0]] h (.int .i64 (qam (fun j=>decide (y=(gs.getD j default).name)) n 0)) h:=by
 have hc:=qU hk;refine qaO qru n (fun j=>grC (gs.getD j default)) (fun j=> .agg (grC (gs.getD j default))) _ [] [.op k v 0] _ h (fun i _=>⟨rfl,by simp[zZ,grC],rfl,rfl,rfl⟩) (fun i _=> ?_) (by omega);refine ACalls.borrow ?_ rfl;have e:([AV.agg (grC (gs.getD i default))]++ [AV.op k v 0]).map (rei (fun _=>true) h 8)= [.agg (grC (gs.getD i default)),.ip [.str y]]:=by
  simp only[List.cons_append,List.nil_append,List.map_cons,List.map_nil,rei_op,if_true,hc,ipOf_some,List.drop_zero,rei_agg];rfl
 rw[List.nil_append,e];exact qDE _ y _
def nIx(names:List Str)(s:Str):Int:=qam (fun j=>decide (s=names.getD j [])) names.length 0
def gIx(gs:List Gr)(s:Str):Int:=qam (fun j=>decide (s=(gs.getD j default).name)) gs.length 0
def qep(names:List Str)(gs:List Gr)(sg:List Str)(i:Nat):Int:=
 if nIx names (sg.getD i [])<0∧gIx gs (sg.getD i [])<0 then 6 else if qZ (fun j=>decide (sg.getD i []=sg.getD j [])) i=true then 7 else 0
def els(names:List Str)(gs:List Gr)(s:Str):List Int:=if 0≤nIx names s then [nIx names s] else (gs.getD (gIx gs s).toNat default).mem
def qfM(names:List Str)(gs:List Gr)(sg:List Str):Nat→Nat
 |0=>0
 |i+1=>qfM names gs sg i|||jA (els names gs (sg.getD i []))
def kQ(names:List Str)(gs:List Gr)(sg:List Str):Int:=if sgE names gs≠0 then 1 else qa9 (qep names gs sg) 0 sg.length
def zN(names:List Str)(gs:List Gr)(sg:List Str):List Int:=if kQ names gs sg=0 then zD (qfM names gs sg sg.length).testBit 64 else []
theorem qaD{b:Int}{l:List Int}(h:qdn b l=0):inB b l∧ ∀i,0<i→i<l.length→l.getD (i-1) 0<l.getD i 0:=by
 unfold qdn at h;rw[jo]at h;refine⟨fun i hi=> ?_,fun i h0 hi=> ?_⟩
 ·have:=h i hi
  unfold qen at this;split at this
  ·cases this
  ·rename_i hc;omega
 ·have:=h i hi
  unfold qen at this;split at this
  ·cases this
  ·split at this
   ·cases this
   ·rename_i hc;omega
structure qoa (names:List Str) (gs:List Gr):Prop where
 n32:names.length≤32
 g16:gs.length≤16
 na: ∀i,i<names.length→jM names i=0
 gr: ∀i,i<gs.length→qe3 names gs i=0
theorem qda{names:List Str}{gs:List Gr}(h:sgE names gs=0):qoa names gs:=by
 unfold sgE at h;split at h
 ·cases h
 split at h
 ·rename_i h1;exact absurd h h1
 split at h
 ·cases h
 rename_i h1 h2 h3;exact⟨by omega,by omega,jo.1 (by simpa using h2),jo.1 h⟩
theorem qf6{names:List Str}{gs:List Gr}(h:qoa names gs){i:Nat}(hi:i<gs.length):qdn names.length (gs.getD i default).mem=0:=by
 have:=h.gr i hi
 unfold qe3 at this
 repeat' split at this
 all_goals first|(cases this;done)|exact this
theorem qbt(names:List Str)(s:Str):(∃k:Nat,k<names.length∧names.getD k []=s∧nIx names s=k)∨((∀j,j<names.length→s≠names.getD j [])∧nIx names s= -1):=by
 rcases zh (fun j=>decide (s=names.getD j [])) names.length with⟨i,h1,h2,_,h4⟩|⟨h1,h2⟩
 ·exact .inl ⟨i,h1,(of_decide_eq_true h2).symm,h4⟩
 ·exact .inr ⟨fun j hj=>of_decide_eq_false (h1 j hj),h2⟩
theorem qcV(gs:List Gr)(s:Str):(∃k:Nat,k<gs.length∧(gs.getD k default).name=s∧gIx gs s=k)∨((∀j,j<gs.length→s≠(gs.getD j default).name)∧gIx gs s= -1):=by
 rcases zh (fun j=>decide (s=(gs.getD j default).name)) gs.length with⟨i,h1,h2,_,h4⟩|⟨h1,h2⟩
 ·exact .inl ⟨i,h1,(of_decide_eq_true h2).symm,h4⟩
 ·exact .inr ⟨fun j hj=>of_decide_eq_false (h1 j hj),h2⟩
theorem qlh{names:List Str}{gs:List Gr}{s:Str}(h:qoa names gs)(hf: ¬(nIx names s<0∧gIx gs s<0)):inB names.length (els names gs s):=by
 unfold els;rcases qbt names s with⟨k,h1,_,h3⟩|⟨_,h3⟩
 ·rw[h3,ipo (by omega)];intro i hi
  have:i=0:=by simpa using hi
  subst this;simp only[List.getD_cons_zero];omega
 ·rw[h3,ine (by omega)];rcases qcV gs s with⟨k,g1,_,g3⟩|⟨_,g3⟩
  ·rw[g3,Int.toNat_natCast];exact (qaD (qf6 h g1)).1
  ·exact absurd ⟨by omega,by omega⟩ hf
theorem qd8{b c:Int}{l:List Int}(h:inB b l)(hbc:b≤c):inB c l:=fun i hi=>⟨(h i hi).1,by have:=(h i hi).2;omega⟩
theorem qfN{names:List Str}{gs:List Gr}{sg:List Str}(h:qoa names gs): ∀ {i:Nat},(∀j,j<i→qep names gs sg j=0)→qfM names gs sg i<2^64∧ ∀k,(qfM names gs sg i).testBit k=decide (∃j,j<i∧(k:Int)∈els names gs (sg.getD j [])):=by
 intro i
 induction i with
 |zero=>intro _;exact⟨Nat.two_pow_pos 64,fun k=>by simp[qfM]⟩
 |succ i ih=>
  intro hz;obtain⟨h1,h2⟩:=ih (fun j hj=>hz j (by omega));have h3: ¬(nIx names (sg.getD i [])<0∧gIx gs (sg.getD i [])<0):=by
   intro hc
   have:=hz i (by omega)
   unfold qep at this;rw[ipo hc]at this;cases this
  have h4:inB 64 (els names gs (sg.getD i [])):=qd8 (qlh h h3) (by have:=h.n32;omega);refine⟨Nat.or_lt_two_pow h1 (qca h4),fun k=> ?_⟩;unfold qfM;rw[Nat.testBit_or,h2 k,jG h4 k,←Bool.decide_or];refine decide_eq_decide.2 ⟨?_,?_⟩
  ·rintro (⟨j,hj,hm⟩|hm)
   ·exact⟨j,by omega,hm⟩
   ·exact⟨i,by omega,hm⟩
  ·rintro⟨j,hj,hm⟩
   by_cases e:j=i
   ·subst e;exact .inr hm
   ·exact .inl ⟨j,by omega,hm⟩
theorem _root_.AF.Wk.kill1{t:List AV}{h l:List AObj}{a:AObj}{v:Nat}{ty:TypeId}{cs:List AV}:Wk t (h++a:: .mem v ty cs::l) t (h++a:: .emp (v+1)::l):=by
 have:=Wk.kill0 (t:=t) (h:=h++ [a]) (l:=l) (v:=v) (ty:=ty) (cs:=cs)
 simpa using this
theorem kz{e:Int}:VLe (.tup [.nl,.int .i64 e]) (.tup [qn [],.int .i64 e]):=zA ⟨jX,qj,trivial⟩
set_option maxHeartbeats 4000000 in
theorem qDF(names:List Str)(gs:List Gr)(sg:List Str)(h:List AObj)(hz:Szs names gs)(hs:sg.length≤1000000000):
  ACalls Tryz.prog 50 [strs names,qL gs,strs sg] h (.tup [qn (zN names gs sg),.int .i64 (kQ names gs sg)]) h:=by
 have c59:=fun h=>sgP names gs h hz
 obtain⟨z1,z2,z3,z4,z5⟩:=hz;obtain⟨R,hR⟩: ∃R,R=kQ names gs sg:=⟨_,rfl⟩
 obtain⟨Q,hQ⟩: ∃Q,Q=zN names gs sg:=⟨_,rfl⟩
 rw[←hR,←hQ];unfold zN at hQ;rw[←hR]at hQ;unfold kQ at hR;obtain⟨e,he⟩: ∃e,e=sgE names gs:=⟨_,rfl⟩
 rw[←he]at c59 hR
 by_cases g0: ¬e=0
 ·have k0:(e=0)=False:=eqf g0;rw[ipo g0]at hR;rw[ine (by omega)]at hQ;rw[hR,hQ];refine acO qy1 ?_;simp (disch:=omega) only[qA4,strs,qL,go_sem];unfold strs qL at c59
  repeat' first
   |(refine cA (c59 _) flk ?_;simp (disch:=omega) only[k0,go_sem])
   |(apply qb;exact rvk;simp only[go_sem])
  exact kz
 have g0:e=0:=Classical.not_not.1 g0;have k0:(e=0)=True:=eqt g0;rw[ine (fun hc=>hc g0)]at hR;have hok:=qda (he.symm.trans g0);have h32:=hok.n32;unfold strs qL at c59;refine acO qy1 ?_;simp (disch:=omega) only[qA4,strs,qL,go_sem]
 repeat' first
  |(refine cA (c59 _) flk ?_;simp (disch:=omega) only[k0,go_sem])
 refine qp (T:=fun i:Nat×Nat=>qQ 61 [(0,strs names),(1,qL gs),(2,strs sg),(8,.int .u64 (qfM names gs sg i.1:Int)),(17,strs sg),(18,.int .i64 sg.length),(19,.int .i64 i.1)]) (H:=fun i=>h++ [.emp 1,.emp i.2])
  (inv:=fun i=>i.1≤sg.length∧ ∀j,j<i.1→qep names gs sg j=0) (m:=fun i=>sg.length-i.1) (0,0) ⟨nzl _,fun j hj=>absurd hj (nnz j)⟩ (Wk.temps ?_) ?_
 ·(simp only[strs,qL,qfM,go_sem,qi,qe,qa,qh];try (repeat' first|(with_reducible apply aiA)|(apply qg;omega)|(apply qf;rfl)|exact qj))
 rintro⟨i,v⟩ ⟨i1,i2⟩ K hK;simp only at i1 i2 hK;obtain⟨m1,m2⟩:=qfN hok i2;have hst:qfM names gs sg (i+1)=qfM names gs sg i|||jA (els names gs (sg.getD i [])):=rfl;obtain⟨a,ha⟩: ∃a,a=qfM names gs sg i:=⟨_,rfl⟩
 have ea:=ha.symm;rw[ea]at m1 hst
 by_cases hi:i<sg.length
 ·have k1:((i:Int)<sg.length)=True:=eqt (by omega);have k2:((i:Int)≤sg.length)=True:=eqt (by omega);have hE:=zC (f:=qep names gs sg) hi i2;have hs:qep names gs sg i=if nIx names (sg.getD i [])<0∧gIx gs (sg.getD i [])<0 then 6 else if qZ (fun j=>decide (sg.getD i []=sg.getD j [])) i=true then 7 else 0:=rfl
  obtain⟨s,hsx⟩: ∃s,s=sg.getD i []:=⟨_,rfl⟩
  have es:=hsx.symm;simp only[es]at hs hst;have c102:=fun h=>qzt names.length (fun j=>names.getD j []) s h z1
  have c103:=qDT gs.length gs s (h.length+1) (v+1) (h++ [.emp 1,.mem (v+1) 9 [.str s]]) (by rw[getO_app];rfl) (nlr _) z2;have c88:=fun h=>qk8 i (fun j=>sg.getD j []) s h (by omega)
  have hn:=qbt names s;have hg:=qcV gs s;obtain⟨n,hnx⟩: ∃n,n=nIx names s:=⟨_,rfl⟩
  obtain⟨g,hgx⟩: ∃g,g=gIx gs s:=⟨_,rfl⟩
  have hnx':qam (fun j=>decide (s=names.getD j [])) names.length 0=n:=hnx.symm;have hgx':qam (fun j=>decide (s=(gs.getD j default).name)) gs.length 0=g:=hgx.symm;rw[hnx']at c102;rw[hgx']at c103;rw[←hnx]at hn hs;rw[←hgx]at hg hs
  by_cases g1:n<0∧g<0
  ·have q1:(n<0)=True:=eqt g1.1;have q2:(g<0)=True:=eqt g1.2;rw[ipo g1]at hs;have hV:R=6:=by rw[hR,hE (by rw[hs];decide),hs]
   rw[hV,ine (by decide)]at hQ;rw[hV,hQ];simp (disch:=omega) only[strs,qL,k1,es,ea,go_sem]
   repeat' first
    |((first|refine cA (c102 _) ?_ ?_|refine cA (c103) ?_ ?_);exact flk;simp (disch:=omega) only[k2,q1,q2,go_sem])
    |(apply qb;exact rvk;simp only[go_sem])
    |with_reducible apply aiA
   all_goals try exact clz
   exact kz
  rw[ine g1]at hs;cases g2:qZ (fun j=>decide (s=sg.getD j [])) i with
  |true=>
   rw[g2]at c88;rw[ipo g2]at hs;have hV:R=7:=by rw[hR,hE (by rw[hs];decide),hs]
   rw[hV,ine (by decide)]at hQ;rw[hV,hQ]
   by_cases g3:n<0
   ·have q1:(n<0)=True:=eqt g3;have q2:(g<0)=False:=eqf (fun hc=>g1 ⟨g3,hc⟩);simp (disch:=omega) only[strs,qL,k1,es,ea,go_sem]
    repeat' first
     |((first|refine cA (c102 _) ?_ ?_|refine cA (c103) ?_ ?_|refine cA (c88 _) ?_ ?_);exact flk;simp (disch:=omega) only[k2,q1,q2,Nat.sub_zero,go_sem])
     |(apply qb;exact rvk;simp only[go_sem])
     |with_reducible apply aiA
    all_goals try exact clz
    exact kz
   ·have q1:(n<0)=False:=eqf g3;simp (disch:=omega) only[strs,qL,k1,es,ea,go_sem]
    repeat' first
     |((first|refine cA (c102 _) ?_ ?_|refine cA (c103) ?_ ?_|refine cA (c88 _) ?_ ?_);exact flk;simp (disch:=omega) only[k2,q1,Nat.sub_zero,go_sem])
     |(apply qb;exact rvk;simp only[go_sem])
     |with_reducible first|intro _|apply aiA
    all_goals try exact clz
    exact kz
  |false=>
  rw[g2]at c88;rw[ine (by rw[g2];simp)]at hs
  by_cases g3:n<0
  ·have q1:(n<0)=True:=eqt g3;have q2:(g<0)=False:=eqf (fun hc=>g1 ⟨g3,hc⟩);have q3:(0≤n)=False:=eqf (by omega);have eE:els names gs s=(gs.getD g.toNat default).mem:=by unfold els;rw[←hnx,←hgx,ine (by omega)]
   rcases hg with⟨k,p1,p2,rfl⟩|⟨_,p2⟩
   ·rw[Int.toNat_natCast]at eE;have hB:=(qaD (qf6 hok p1)).1;have hB64:inB 64 (gs.getD k default).mem:=qd8 hB (by omega);have z5k:=z5 k;obtain⟨w,hw⟩: ∃w,w=gs.getD k default:=⟨_,rfl⟩
    have ew:=hw.symm;rw[ew]at hB64 z5k eE;rw[eE]at hst;have c96:=fun h=>qAQ w.mem h z5k hB64
    have q4:((k:Int)<gs.length)=True:=eqt (by omega);have q5:(0≤(k:Int))=True:=eqt (by omega);have e2:=qhp m1 (qca hB64);unfold qn at c96;simp (disch:=omega) only[strs,qL,grC,qn,k1,es,ea,go_sem]
    repeat' first
     |((first|refine cA (c102 _) ?_ ?_|refine cA (c103) ?_ ?_|refine cA (c88 _) ?_ ?_|refine cA (c96 _) ?_ ?_);exact flk;simp (disch:=omega) only[k2,ew,q1,q2,q3,q4,q5,e2,Nat.sub_zero,go_sem])
     |with_reducible apply aiA
    all_goals try exact clz
    refine hK _ _ (i+1,v+1+1) ⟨hi,fun j hj=> ?_⟩ (by simp only;omega) (Wk.trans Wk.kill1 ?_)
    ·by_cases e':j=i
     ·subst e';exact hs
     ·exact i2 j (by simp only at hj;omega)
    ·simp only[hst];refine Wk.temps ?_
     (simp only[strs,qL,go_sem,qi,qe,qa,qh];try (repeat' first|(with_reducible apply aiA)|(apply qg;omega)|(apply qf;rfl)|exact qj))
   ·exact absurd ⟨g3,by omega⟩ g1
  ·have q1:(n<0)=False:=eqf g3;have q3:(0≤n)=True:=eqt (by omega);rcases hn with⟨k,p1,p2,rfl⟩|⟨_,p2⟩
   ·have eE:els names gs s= [(k:Int)]:=by unfold els;rw[←hnx,ipo (by omega)]
    have eM:jA [(k:Int)]=2^k:=by show 0|||2^(k:Int).toNat=2^k;simp
    rw[eE,eM]at hst;have e1:=qgl (n:=k) (by omega);have e2:=qhp m1 (show 2^k<2^64 from Nat.pow_lt_pow_right (by omega) (by omega));simp (disch:=omega) only[strs,qL,k1,es,ea,go_sem]
    repeat' first
     |((first|refine cA (c102 _) ?_ ?_|refine cA (c103) ?_ ?_|refine cA (c88 _) ?_ ?_);exact flk;simp (disch:=omega) only[k2,q1,q3,e1,e2,Nat.sub_zero,go_sem])
     |(apply qb;exact rvk;simp only[go_sem])
     |with_reducible first|intro _|apply aiA
    all_goals try exact clz
    refine hK _ _ (i+1,v+1+1) ⟨hi,fun j hj=> ?_⟩ (by simp only;omega) (Wk.trans Wk.kill1 ?_)
    ·by_cases e':j=i
     ·subst e';exact hs
     ·exact i2 j (by simp only at hj;omega)
    ·simp only[hst];refine Wk.temps ?_
     (simp only[strs,qL,go_sem,qi,qe,qa,qh];try (repeat' first|(with_reducible apply aiA)|(apply qg;omega)|(apply qf;rfl)|exact qj))
   ·exact absurd g3 (by omega)
 ·have k1:((i:Int)<sg.length)=False:=eqf (by omega);have e':i=sg.length:=by omega
  subst e';have hV:R=0:=by rw[hR,qI (fun j hj=>i2 j hj)]
  rw[hV,ipo rfl,ea]at hQ;have c100:=fun h=>qBW a h m1
  rw[hV,hQ];simp (disch:=omega) only[strs,qL,k1,ea,go_sem]
  repeat' first
   |(refine cA (c100 _) flk ?_;simp (disch:=omega) only[go_sem])
   |(apply qb;exact rvk;simp only[go_sem];exact qj)
end RC
end
section
namespace AF
open Go Go.RowKit
theorem Ext.ofBelow{w w':World}{σ:List OB}{h:List AObj}(H:HR w σ h)(hb:Below w.heap.size w w'):HR w' σ h∧Ext w σ w' σ:=by
 have e:Ext w σ w' σ:=⟨hb.os,hb.tape,hb.output,hb.size,fun b hl _=>hb.block b hl,fun _ h=> .inl h,fun _ o h=>⟨o,h,nlr _,fun _=>rfl⟩,
  fun b r h=>⟨r,(hb.block b (Array.getElem?_eq_some_iff.1 h).1).trans h⟩⟩
 exact⟨⟨H.len,H.inj,fun k o b h1 h2=>Nat.lt_of_lt_of_le (H.lt k o b h1 h2) hb.size,fun k a o h1 h2=>(H.obj k a o h1 h2).ext e (fun b h3=>hb.block b (H.lt k o b h2 h3))⟩,e⟩
end AF
end
section
namespace AF
open Go Go.ChangeShapes Go.WideShapes Go.ChangeAt Go.RowKit
def qmF:OB:=⟨none,0,0,0⟩
theorem qgd(b:Nat): ¬own [qmF] b:=by
 rintro⟨k,o,h,h2⟩;cases k with
 |zero=>simp at h;subst h;cases h2
 |succ k=>simp at h
theorem qzo{w:World}{bs:List Nat}{G:World→Prop}(hb: ∀b,b∈bs→ ∃arr T fz,w.heap[b]? =some (.cells arr T fz))(hG: ∀w':World,(∀b,b∈bs→w'.heap[b]? =w.heap[b]?)→G w'):
  HR w [qmF] [.pin bs G]:=by
 refine⟨rfl,?_,?_,?_⟩
 ·intro i j oi oj b hi hj bi;cases i with
  |zero=>simp at hi;subst hi;cases bi
  |succ i=>simp at hi
 ·intro k o b hk hb';cases k with
  |zero=>simp at hk;subst hk;cases hb'
  |succ k=>simp at hk
 ·intro k a o ha ho;cases k with
  |zero=>
   simp at ha ho;subst ha;subst ho;exact⟨rfl,rfl,fun b h=>⟨qgd b,hb b h⟩,hG⟩
  |succ k=>simp at ha
theorem qtK(w:World):Ext w [] w [qmF]:=
 ⟨rfl,rfl,rfl,nlr _,fun _ _ _=>rfl,fun b h=>absurd h (qgd b),fun k o h=>by simp at h,fun _ r h=>⟨r,h⟩⟩
theorem qjK{w w':World}{σ':List OB}(h:Ext w [qmF] w' σ'):Below w.heap.size w w':=⟨h.os,h.tape,h.output,h.size,fun k hk=>h.keep k hk (qgd k)⟩
theorem VRs.ext{w w':World}{σ σ':List OB}(h:Ext w σ w' σ'){avs:List AV}{xs:List Value}(hv:VRs w σ avs xs):VRs w' σ' avs xs:=⟨hv.1,fun i c x hc hx=>(hv.2 i c x hc hx).ext h⟩
theorem qzF{w:World}{σ:List OB}{h:List AObj}{k:Nat}{bs:List Nat}{G:World→Prop}(H:HR w σ h)(hk:h[k]? =some (.pin bs G)):G w:=by
 have hl:k<σ.length:=by rw[H.len];exact (List.getElem?_eq_some_iff.1 hk).1
 obtain⟨_,_,_,h4⟩:=H.obj k _ σ[k] hk (qY hl);exact h4 w (fun _ _=>rfl)
theorem qfc{H:Type}{enc:TypeId×Value→H}{P:Program}{W:World}{f:Func}{fid:FuncId}{s:ChangeSpec}{args:Array Value}{ds gs:List (DataW H)}{before:List MemPlace}{tb:TypeId}{bs:List Nat}{G:World→Prop}
  (hl:laidOutB P=true) (hv:s.vars= []) (hfn: ∀ds',ds'.length=f.params.size→s.fn H ds'= { results:= [.lit (.bool true)],args:=ds' })
  (hrt:f.resultTypes= #[tb]) (htb:P.underlying tb=some .bool) (hro: ∀t∈f.params.toList,P.readableRec t=true∧t<P.types.size)
  (hW:DataW.Whole enc P f.params.toList s.vars false W args.toList ds gs before)
  (hb: ∀b,b∈bs→ ∃arr T fz,W.heap[b]? =some (.cells arr T fz)) (hG: ∀w':World,(∀b,b∈bs→w'.heap[b]? =W.heap[b]?)→G w')
  (hc: ∀p,DataW.TrodAll enc P W 0 (fun _=>true) true f.params.toList args.toList ds p→ds.length=f.params.size∧ ∃avs:List AV,VRs W [] avs args.toList∧ACalls P fid avs [.pin bs G] (.bool true) [.pin bs G]):
  Calls P fid args W fun e W'=> ∃v,e= .returned v∧s.post enc P f false true false false W args v W':=by
 have hW':=hW;obtain⟨p,q,hA,hV,rfl,hz,_⟩:=hW;rw[hv]at hV;obtain⟨rfl,rfl⟩:=trodVars_none hV;obtain⟨hlen,avs,h1,h2⟩:=hc p hA;rw[List.append_nil]at hW';have h3:=h2.2 W [qmF] args.toList (qzo hb hG) (h1.ext (qtK W));rw[Array.toArray_toList]at h3;refine (callsIn_wide.1 h3).mono ?_;rintro e W' ⟨v,σ',rfl,g1,g2,g3⟩;obtain rfl:=zY g2;exact⟨_,rfl,qpG hl hv (hfn ds hlen) hrt htb hro hW' hA (qjK g3)⟩
theorem qev{P:Program}{w w':World}{name:String}{g:Nat}(hg:P.globalNamed name=some g)(h:w'.heap[g]? =w.heap[g]?):w'.var? P name=w.var? P name:=by
 unfold World.var?;rw[hg];simp only[Option.bind_some];rw[h]
theorem qdf{P:Program}{w:World}{name:String}{g:Nat}{cs:Array Value}(hg:P.globalNamed name=some g)(h:w.var? P name=some cs): ∃arr T fz,w.heap[g]? =some (.cells arr T fz):=by
 unfold World.var? at h;rw[hg]at h;simp only[Option.bind_some]at h;split at h
 ·rename_i cs T fz hc;exact⟨_,_,_,hc⟩
 ·cases h
end AF
end
section
open Go Go.Proofs AF HY
namespace LN
def qri (w : World) : Prop := Lib.TabIs Tryz.prog w "internal/strconv.uint64pow10" .u64 Lib.pow10Tab
def qwf (w : World) : Prop := (∃ tp p, w.var? Tryz.prog "strconv.ErrSyntax" = some #[.iface tp p]) ∧ ∃ tp p, w.var? Tryz.prog "strconv.ErrRange" = some #[.iface tp p]
def qai(Q:World→Prop)(h:List AObj):Prop:= ∃(k:Nat) (bs:List Nat) (G:World→Prop),h[k]? =some (.pin bs G)∧ ∀w,G w→Q w
theorem qai.app{Q:World→Prop}{h:List AObj}(hp:qai Q h)(l:List AObj):qai Q (h++l):=by
 obtain⟨k,bs,G,h1,h2⟩:=hp;exact⟨k,bs,G,by rw[List.getElem?_append_left (List.getElem?_eq_some_iff.1 h1).1];exact h1,h2⟩
theorem qai.mono{Q Q':World→Prop}{h:List AObj}(hp:qai Q h)(hq: ∀w,Q w→Q' w):qai Q' h:=by
 obtain⟨k,bs,G,h1,h2⟩:=hp;exact⟨k,bs,G,h1,fun w hw=>hq w (h2 w hw)⟩
theorem qai.of{Q:World→Prop}{h:List AObj}{w:World}{σ:List OB}(hp:qai Q h)(H:HR w σ h):Q w:=by
 obtain⟨k,bs,G,h1,h2⟩:=hp;exact h2 w (qzF H h1)
theorem t48(n:Int)(h:List AObj)(hp:qai qri h)(h0: -9223372036854775808≤n)(h1:n≤9223372036854775807):ACalls Tryz.prog 86 [.int .i64 n] h (.str (Lib.itoa n)) h:=by
 refine⟨qwb Tryz.func86 (by kernel_rfl) (by kernel_rfl),fun w σ xs H hv=> ?_⟩;obtain⟨x,rfl,hx⟩:=hv.one;rw[zf hx];refine (callsIn_wide.2 (Any.strconv_Itoa Tryz.laysM171 n h0 h1 w (hp.of H))).mono ?_;rintro e w' ⟨rfl,k,os,rfl⟩;obtain⟨g1,g2⟩:=Ext.ofBelow H (Lib.below_grow w.heap.size w (nlr _) k os);exact⟨_,σ,rfl,g1,.imm .str,g2⟩
def qss(s:List UInt8):Int:=
 match Lib.atoiAll s with
 | .ok _=>0
 | .range=>Lib.atoiSat s
 |_=>0
def qos(s:List UInt8):AV:=
 match Lib.atoiAll s with
 | .ok v=> .tup [.int .i64 v,.nilif]
 |_=> .tup [.int .i64 (qss s),.ifc]
theorem t50(s:List UInt8)(h:List AObj)(hp:qai qwf h)(hl:s.length≤281474976710656):ACalls Tryz.prog 291 [.str s] h (qos s) h:=by
 refine⟨qwb Tryz.func291 (by kernel_rfl) (by kernel_rfl),fun w σ xs H hv=> ?_⟩;obtain⟨x,rfl,hx⟩:=hv.one;rw[zU hx];have hsz:(⟨s.toArray⟩:ByteArray).size≤281474976710656:=by simpa[ByteArray.size] using hl
 obtain⟨⟨t1,p1,e1⟩,t2,p2,e2⟩:=hp.of H;unfold qos qss;have hd:(⟨s.toArray⟩:ByteArray).data.toList=s:=rfl;cases hs:Lib.atoiAll s
 ·rename_i v;refine (callsIn_wide.2 (Any.strconv_Atoi_ok Tryz.laysC172 ⟨s.toArray⟩ (by omega) v (by rw[hd];exact hs) w)).mono ?_;rintro e w' ⟨rfl,hw⟩;have hb:Go.RowKit.Below w.heap.size w w':=by
   rcases hw with rfl|⟨t,rfl⟩
   ·exact Go.RowKit.Below.refl _ _
   ·exact Lib.bytesWorld_below _ _ _
  obtain⟨g1,g2⟩:=Ext.ofBelow H hb;refine⟨_,σ,rfl,g1,.imm (.tup rfl (fun i c y hc hy=> ?_)),g2⟩
  match i with
  |0=>simp at hc hy;subst hc hy;exact .int
  |1=>simp at hc hy;subst hc hy;exact .nilif
  |i+2=>simp at hc
 ·refine (callsIn_wide.2 (Any.strconv_Atoi_syntax_var Tryz.laysC172 ⟨s.toArray⟩ hsz (by rw[hd];exact hs) t1 p1 w e1)).mono ?_;rintro e w' ⟨N,rfl,_,_,hb⟩;obtain⟨g1,g2⟩:=Ext.ofBelow H hb;refine⟨_,σ,rfl,g1,.imm (.tup rfl (fun i c y hc hy=> ?_)),g2⟩
  match i with
  |0=>simp at hc hy;subst hc hy;exact .int
  |1=>simp at hc hy;subst hc hy;exact .ifc
  |i+2=>simp at hc
 ·refine (callsIn_wide.2 (Any.strconv_Atoi_range_var Tryz.laysC172 ⟨s.toArray⟩ hsz (by rw[hd];exact hs) t2 p2 w e2)).mono ?_;rintro e w' ⟨N,rfl,_,_,hb⟩;obtain⟨g1,g2⟩:=Ext.ofBelow H hb;refine⟨_,σ,rfl,g1,.imm (.tup rfl (fun i c y hc hy=> ?_)),g2⟩
  match i with
  |0=>simp at hc hy;subst hc hy;exact .int
  |1=>simp at hc hy;subst hc hy;exact .ifc
  |i+2=>simp at hc
theorem qmr: ∀(l r:List UInt8) (acc:Nat),Lib.parseUint10 acc (l++r)=match Lib.parseUint10 acc l with
  | .ok v=>Lib.parseUint10 v r
  |e=>e:=by
 intro l
 induction l with
 |nil=>intro r acc;rfl
 |cons c l ih=>
  intro r acc;rw[List.cons_append,Lib.parseUint10,Lib.parseUint10]
  by_cases h1:48≤c.toNat∧c.toNat≤57
  ·rw[ipo h1,ipo h1]
   by_cases h2:1844674407370955162≤acc
   ·rw[ipo h2,ipo h2]
   ·rw[ine h2,ine h2]
    by_cases h3:18446744073709551616≤acc*10+(c.toNat-48)
    ·rw[ipo h3,ipo h3]
    ·rw[ine h3,ine h3];exact ih r _
  ·rw[ine h1,ine h1]
theorem qd3{d:Nat}(h:d<10):(UInt8.ofNat (48+d)).toNat=48+d:=by
 rw[UInt8.toNat_ofNat'];omega
theorem qms: ∀u,u<1000000000→Lib.parseUint10 0 (Lib.decDigits u)= .ok u:=by
 intro u
 induction u using Nat.strongRecOn with
 |_ u ih=>
  intro hu
  by_cases h:u<10
  ·rw[Lib.decDigits,dif_pos h,Lib.parseUint10,qd3 h,ipo (by omega),ine (by omega),ine (by omega),Lib.parseUint10];congr 1;omega
  ·rw[Lib.decDigits,dif_neg h,qmr,ih (u/10) (by omega) (by omega)];simp only;rw[Lib.parseUint10,qd3 (by omega),ipo (by omega),ine (by omega),ine (by omega),Lib.parseUint10];congr 1;omega
theorem qie: ∀u,∀c∈Lib.decDigits u,48≤c.toNat∧c.toNat≤57:=by
 intro u
 induction u using Nat.strongRecOn with
 |_ u ih=>
  intro c hc
  by_cases h:u<10
  ·rw[Lib.decDigits,dif_pos h,List.mem_singleton]at hc;subst hc;rw[qd3 h];omega
  ·rw[Lib.decDigits,dif_neg h]at hc;rcases List.mem_append.1 hc with hc|hc
   ·exact ih (u/10) (by omega) c hc
   ·rw[List.mem_singleton]at hc;subst hc;rw[qd3 (by omega)];omega
theorem qxE(u:Nat):Lib.decDigits u≠ []:=by
 intro h
 have:=Lib.decDigits_length u
 have:=Lib.nDigits_pos u
 rw[h]at*;simp at*;omega
theorem qeF{n:Int}(h0:0≤n)(h1:n<1000000000):Lib.atoiAll (Lib.itoa n)= .ok n:=by
 obtain⟨u,rfl⟩: ∃u:Nat,n=u:=⟨n.toNat,by omega⟩
 rw[Lib.itoa_nonneg];have hd:=qie u;have hp:=qms u (by omega);have hne:=qxE u;cases hl:Lib.decDigits u with
 |nil=>exact absurd hl hne
 |cons c r=>
  rw[hl]at hd hp;have hc:=hd c (List.mem_cons_self ..);unfold Lib.atoiAll;simp only;rw[ine (show¬(c.toNat=43∨c.toNat=45) by omega)];unfold Lib.parseMag;rw[ine (by simp),hp];simp only;rw[ine (by omega),ine (by omega),ine (by omega)]
end LN
end
