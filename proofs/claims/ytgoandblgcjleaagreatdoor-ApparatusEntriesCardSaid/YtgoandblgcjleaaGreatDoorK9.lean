import Derived.Test.YtgoandblgcjleaaGreatDoorK8
import Derived.Test.YtgoandblgcjleaaGreatDoorK3
import Derived.Test.YtgoandblgcjleaaGreatDoorK5
import Derived.Test.YtgoandblgcjleaaGreatDoorProg
import Derived.Test.YtgoandblgcjleaaGreatDoorK4
import Derived.Below
import Derived.Test.YtgoandblgcjleaaGreatDoorK1
import Derived.Lib.AppendIntMem
import Derived.Stop.LaidErr
import Derived.Lib.ItoaLen
set_option linter.all false
set_option linter.unusedSimpArgs false
set_option linter.unusedVariables false
set_option linter.unusedSectionVars false
set_option maxHeartbeats 16000000
set_option maxRecDepth 100000
section
open Go Go.Proofs AF HY
namespace HY
theorem qDx(c:UInt8)(h:List AObj):ACalls Tryz.prog 290 [.int .u8 (c.toNat:Int)] h (.bool (spc c)) h:=by
 refine qu qxR (by simp) ?_;simp only[List.length_cons,List.length_nil,Nat.reduceAdd,Nat.reduceSub,List.replicate,List.cons_append,List.nil_append,List.append_nil];simp (disch:=omega) only[qwh,go_sem]
 repeat' first
  |(refine qE (qdX c _) ?_ ?_;exact flk;simp (disch:=omega) only[go_sem])
  |(apply qf;exact rvk;simp only[go_sem];exact qj)
def qar(s:List UInt8):AV:= .sl s.length fun i=> [.int .u8 ((s.getD i 0).toNat:Int)]
def qb2(p:UInt8→Bool):List UInt8→Nat→Int
 | [],_=> -1
 |c::r,i=>if p c=true then i else qb2 p r (i+1)
theorem qkT(p:UInt8→Bool): ∀(s:List UInt8) (i:Nat),(0≤qb2 p s i↔s.any p=true)∧ -1≤qb2 p s i:=by
 intro s
 induction s with
 |nil=>intro i;simp[qb2]
 |cons c r ih=>
  intro i
  by_cases hc:p c=true
  ·have e:qb2 p (c::r) i=i:=if_pos hc;rw[e,List.any_cons,hc];simp
   try omega
  ·have e:qb2 p (c::r) i=qb2 p r (i+1):=if_neg hc;rw[e,List.any_cons];have hc':p c=false:=by simpa using hc
   rw[hc',Bool.false_or];exact ih (i+1)
theorem qkS(p:UInt8→Bool)(s:List UInt8)(i:Nat):decide (0≤qb2 p s i)=s.any p:=by
 rw[Bool.eq_iff_iff,decide_eq_true_eq];exact (qkT p s i).1
theorem qDA(s:List UInt8)(p:UInt8→Bool)(F:Nat)(h:List AObj)(hs:s.length≤1000000000)(hp: ∀(c:UInt8) (h:List AObj),ACalls Tryz.prog F [.int .u8 (c.toNat:Int)] h (.bool (p c)) h):ACalls Tryz.prog 308 [qar s,.fn (.func F) [] []] h (.int .i64 (qb2 p s 0)) h:=by
 refine qu qxX (by simp) ?_;simp only[List.length_cons,List.length_nil,Nat.reduceAdd,Nat.reduceSub,List.replicate,List.cons_append,List.nil_append,List.append_nil];simp (disch:=omega) only[qwm,qar,go_sem];refine qm (T:=fun i:Nat=>qI 19 [(0,qar s),(1,.fn (.func F) [] []),(6,qar s),(7,.int .i64 s.length),(8,.int .i64 i)]) (H:=fun _=>h) (inv:=fun i=>i≤s.length∧qb2 p s 0=qb2 p (s.drop i) i) (m:=fun i=>s.length-i) 0 ⟨by omega,by simp⟩ (Wk.temps ?_) ?_
 ·(simp only[qar,qI,List.foldl,go_sem,qh,qd,qa,qg];try (repeat' first|(with_reducible apply aiA)|(apply qi;omega)|(apply qe;rfl)|exact qj))
 ·rintro i ⟨i1,i2⟩ K hK;rw[i2]
  by_cases hi:i<s.length
  ·have e:s.drop i=s.getD i 0::s.drop (i+1):=by rw[List.drop_eq_getElem_cons hi];simp[gdqA,hi]
   rw[e]at i2 ⊢;simp only[qb2]at i2 ⊢;have hpc:=fun h=>hp (s.getD i 0) h
   cases hb:p (s.getD i 0)with
   |true=>
    rw[hb]at hpc;simp (disch:=omega) only[qI,List.foldl,qar,go_sem]
    repeat' first
     |(refine qw (hpc _) ?_;simp (disch:=omega) only[go_sem,qp])
     |(apply qf;exact rvk;simp only[go_sem];first|exact qj|apply qi)
     |with_reducible first|intro _|apply aiA
    all_goals try exact clz
   |false=>
    rw[hb]at hpc i2;simp (disch:=omega) only[qI,List.foldl,qar,go_sem]
    repeat' first
     |(refine qw (hpc _) ?_;simp (disch:=omega) only[go_sem,qp])
     |(apply qf;exact rvk;simp only[go_sem];apply qi)
     |with_reducible first|intro _|apply aiA
    all_goals try exact clz
    refine hK _ _ (i+1) ⟨by omega,by rw[i2];simp⟩ (by omega) (Wk.temps ?_)
    (simp only[qar,qI,List.foldl,go_sem,qh,qd,qa,qg];try (repeat' first|(with_reducible apply aiA)|(apply qi;omega)|(apply qe;rfl)|exact qj))
  ·have e:i=s.length:=by omega
   subst e;rw[List.drop_length];simp (disch:=omega) only[qI,List.foldl,qar,go_sem]
   repeat' first
    |(apply qf;exact rvk;simp only[go_sem];exact qj)
    |with_reducible first|intro _|apply aiA
   all_goals try exact clz
theorem qDw(s:List UInt8)(p:UInt8→Bool)(F:Nat)(h:List AObj)(hs:s.length≤1000000000)(hp: ∀(c:UInt8) (h:List AObj),ACalls Tryz.prog F [.int .u8 (c.toNat:Int)] h (.bool (p c)) h):ACalls Tryz.prog 289 [qar s,.fn (.func F) [] []] h (.bool (s.any p)) h:=by
 rw[←qkS p s 0];refine qu qxP (by simp) ?_;simp only[List.length_cons,List.length_nil,Nat.reduceAdd,Nat.reduceSub,List.replicate,List.cons_append,List.nil_append,List.append_nil];simp (disch:=omega) only[qwg,qar,go_sem]
 repeat' first
  |(refine qE (qDA s p F _ hs hp) ?_ ?_;exact flk;simp (disch:=omega) only[go_sem])
  |(apply qf;exact rvk;simp only[go_sem];exact qj)
theorem t88(s:List UInt8)(h:List AObj)(hs:s.length≤1000000000):ACalls Tryz.prog 247 [.str s] h (.bool (qav s)) h:=by
 obtain⟨c,hc⟩: ∃c,c=qaO s:=⟨_,rfl⟩
 have h104: ∀h:List AObj,ACalls Tryz.prog 288 [.str s] h (.int .i64 c) h:=fun h=>by rw[hc];exact qDv s h hs
 have hw:qav s=(decide (0<s.length)&&decide (s.length≤64)&&decide (c=0)&&(decide (zK (ch s 0)=1)||decide (zK (ch s 0)=3))&& !(s.any spc)):=by rw[hc];rfl
 rw[hw]
 by_cases g1:0<s.length
 ·have k1:(s= [])=False:=eq_false (by intro e;rw[e]at g1;simp at g1)
  by_cases g2:s.length≤64
  ·have k2:(64<(s.length:Int))=False:=eq_false (by omega)
   by_cases g3:c=0
   ·refine qu qgI (by simp) ?_;simp only[List.length_cons,List.length_nil,Nat.reduceAdd,Nat.reduceSub,List.replicate,List.cons_append,List.nil_append,List.append_nil];simp (disch:=omega) only[qj7,k1,k2,g3,go_sem]
    repeat' first
     |((first|refine qE (qdX _ _) ?_ ?_|refine qE (qDw s spc 290 _ hs qDx) ?_ ?_);exact flk;simp (disch:=omega) only[go_sem])
     |(refine qL (fun e=>⟨?_,h104 _⟩) ?_;exact flk;simp (disch:=omega) only[g3,jG,go_sem])
     |(apply qf;exact rvk;simp only[go_sem];apply qe)
     |with_reducible first|intro _|apply aiA
    all_goals try exact clz
    all_goals (generalize s.any spc=b;grind)
   ·refine qu qgI (by simp) ?_;simp only[List.length_cons,List.length_nil,Nat.reduceAdd,Nat.reduceSub,List.replicate,List.cons_append,List.nil_append,List.append_nil];simp (disch:=omega) only[qj7,k1,k2,go_sem]
    repeat' first
     |(refine qL (fun e=>⟨?_,h104 _⟩) ?_;exact flk;simp (disch:=omega) only[g3,jG,go_sem])
     |(apply qf;exact rvk;simp only[go_sem];exact qj)
    all_goals (generalize s.any spc=b;grind)
  ·have k2:(64<(s.length:Int))=True:=eq_true (by omega);refine qu qgI (by simp) ?_;simp only[List.length_cons,List.length_nil,Nat.reduceAdd,Nat.reduceSub,List.replicate,List.cons_append,List.nil_append,List.append_nil];simp (disch:=omega) only[qj7,k1,k2,go_sem]
   repeat' first
    |(refine qk ((.int .i64 0)) ?_;simp (disch:=omega) only[go_sem])
    |(apply qf;exact rvk;simp only[go_sem];apply qe)
   all_goals (generalize s.any spc=b;grind)
 ·have e:s= []:=List.eq_nil_of_length_eq_zero (by omega);subst e;refine qu qgI (by simp) ?_;simp only[List.length_cons,List.length_nil,Nat.reduceAdd,Nat.reduceSub,List.replicate,List.cons_append,List.nil_append,List.append_nil];simp (disch:=omega) only[qj7,go_sem]
  repeat' first
   |(refine qk ((.int .i64 0)) ?_;simp (disch:=omega) only[go_sem])
   |(apply qf;exact rvk;simp only[go_sem];exact qj)
  all_goals (generalize List.any _ spc=b;grind)
end HY
end
section
open Go Go.Proofs AF
def qO:List Nat:= [132,109,174,220,68]
theorem qAD:qG Tryz.prog 53 26 0 [RV.tmp 4] cEQ:=fi Tryz.f53 [] qO []
theorem qAy:qG Tryz.prog 40 26 0 [RV.tmp 4] cEQ:=fi Tryz.f40 [] qO []
def qBS:C:=
 ((C.ops [MC 4 (.bool false)]).seq (((C.ops [MV 6 0,O1 7 .len 6,MV 8 1,O1 9 .len 8,BI 10 .neq 7 9]).seq (C.cond (.t 10) ((C.ops [MC 4 (.bool false)]).seq C.ret) C.skip)).seq
 (((C.ops [MC 5 (i6 0)]).seq (C.block 0 (((C.ops [MV 11 5,MV 12 0,O1 13 .len 12,BI 14 .lss 11 13]).seq (C.cond (.t 14) C.skip (C.exit 0))).seq ((C.block 1 ((C.ops [MV 17 0,MV 18
 5,O2 19 (.idxA 6) 17 18,O1 20 (.load (some 6)) 19,MV 21 1,MV 22 5,O2 23 (.idxA 6) 21 22,O1 24 (.load (some 6)) 23,O2 25 (.call 30 true) 20 24,O1 26 (.un UnOp.not) 25]).seq
 (C.cond (.t 26) ((C.ops [MC 4 (.bool false)]).seq C.ret) C.skip))).seq (C.ops [MV 15 5,BC 16 .add 15 (i6 1),MV 5 16]))).loop)).seq ((C.ops [MC 4 (.bool true)]).seq
 C.ret))))
theorem qAw:qG Tryz.prog 29 27 0 [RV.tmp 4] qBS:=fi Tryz.f29 [] qO []
def qAh:C:=
 ((C.ops [MC 4 (i6 0)]).seq (((C.ops [MV 8 0,O1 9 .len 8,BC 10 .gtr 9 (i6 32)]).seq (C.cond (.t 10) ((C.ops [MC 4 (i6 4)]).seq C.ret) C.skip)).seq (((C.ops [MC 5 (i6 0)]).seq
 (C.block 0 (((C.ops [MV 11 5,MV 12 0,O1 13 .len 12,BI 14 .lss 11 13]).seq (C.cond (.t 14) C.skip (C.exit 0))).seq ((C.block 1 (((C.ops [MV 17 0,MV 18 5,O2 19 (.idxA 1) 17 18,
 LD 20 19,O1 21 (.call 164 true) 20,O1 22 (.un UnOp.not) 21]).seq (C.cond (.t 22) ((C.ops [MC 4 (i6 14)]).seq C.ret) C.skip)).seq ((C.ops [MV 23 0,MV 24 5,O2 25 (.slc 1 false
 true) 23 24,MV 26 0,MV 27 5,O2 28 (.idxA 1) 26 27,LD 29 28,O2 30 (.call 165 true) 25 29,BC 31 .geq 30 (i6 0)]).seq (C.cond (.t 31) ((C.ops [MC 4 (i6 7)]).seq C.ret)
 C.skip)))).seq (C.ops [MV 15 5,BC 16 .add 15 (i6 1),MV 5 16]))).loop)).seq (((C.ops [MV 32 1,O1 33 .len 32,BC 34 .gtr 33 (i6 16)]).seq (C.cond (.t 34) ((C.ops [MC 4 (i6
 4)]).seq C.ret) C.skip)).seq (((C.ops [MC 6 (i6 0)]).seq (C.block 2 (((C.ops [MV 35 6,MV 36 1,O1 37 .len 36,BI 38 .lss 35 37]).seq (C.cond (.t 38) C.skip (C.exit 2))).seq
 ((C.block 3 (((C.ops [MV 41 1,MV 42 6,O2 43 (.idxA 2) 41 42,O1 44 (.fldA 0) 43,LD 45 44,O1 46 (.call 166 true) 45,O1 47 (.un UnOp.not) 46]).seq (C.cond (.t 47) ((C.ops [MC 4
 (i6 14)]).seq C.ret) C.skip)).seq (((C.ops [MV 48 0,MV 49 1,MV 50 6,O2 51 (.idxA 2) 49 50,O1 52 (.fldA 0) 51,LD 53 52,O2 54 (.call 165 true) 48 53,BC 55 .geq 54 (i6 0),MV
 56 55,MG 57 56 false 1,MG 58 56 false 6,P2 59 56 false (.slc 2 false true) 57 58,P1 60 56 false (.call 167 true) 59,MG 61 56 false 1,MG 62 56 false 6,P2 63 56 false (.idxA
 2) 61 62,P1 64 56 false (.fldA 0) 63,P1 65 56 false (.load none) 64,P2 66 56 false (.call 165 true) 60 65,PC 67 56 false (.bin .geq) 66 (i6 0),PT 68 56 67]).seq (C.cond (.t
 68) ((C.ops [MC 4 (i6 7)]).seq C.ret) C.skip)).seq (((C.ops [MV 69 1,MV 70 6,O2 71 (.idxA 2) 69 70,O1 72 (.fldA 1) 71,LD 73 72,O1 74 .len 73,BC 75 .eql 74 (i6 0)]).seq
 (C.cond (.t 75) ((C.ops [MC 4 (i6 5)]).seq C.ret) C.skip)).seq ((C.ops [MV 76 0,O1 77 .len 76,MV 78 1,MV 79 6,O2 80 (.idxA 2) 78 79,O1 81 (.fldA 1) 80,LD 82 81,O2 83 (.call
 168 true) 77 82,MV 7 83]).seq ((C.ops [MV 84 7,BC 85 .neq 84 (i6 0)]).seq (C.cond (.t 85) ((C.ops [MV 86 7,MV 4 86]).seq C.ret) C.skip))))))).seq (C.ops [MV 39 6,BC 40 .add 39
 (i6 1),MV 6 40]))).loop)).seq ((C.ops [MC 4 (i6 0)]).seq
 C.ret))))))
theorem qx5:qG Tryz.prog 98 87 0 [RV.tmp 4] qAh:=fi Tryz.f98 [] qO []
def qvD:C:=
 ((C.ops [MC 4 (i6 0)]).seq (((C.ops [MC 5 (i6 0)]).seq (C.block 0 (((C.ops [MV 6 5,MV 7 0,O1 8 .len 7,BI 9 .lss 6 8]).seq (C.cond (.t 9) C.skip (C.exit 0))).seq ((C.block 1
 ((C.ops [MV 12 0,MV 13 5,O2 14 (.idxA 1) 12 13,LD 15 14,MV 16 1,BI 17 .eql 15 16]).seq (C.cond (.t 17) ((C.ops [MV 18 5,MV 4 18]).seq C.ret) C.skip))).seq (C.ops [MV 10 5,BC
 11 .add 10 (i6 1),MV 5 11]))).loop)).seq ((C.ops [MC 4 (i6 (-1))]).seq
 C.ret)))
theorem qw8:qG Tryz.prog 165 19 0 [RV.tmp 4] qvD:=fi Tryz.f165 [] qO []
def qvE:C:=
 ((C.ops [ON 2 (.nilo 0 1 9) []]).seq ((C.ops [⟨some 5,none,.bslc 1 1 0 9 [.str []] [],[]⟩,MV 3 5]).seq (((C.ops [MC 4 (i6 0)]).seq (C.block 0 (((C.ops [MV 6 4,MV 7 0,O1 8
 .len 7,BI 9 .lss 6 8]).seq (C.cond (.t 9) C.skip (C.exit 0))).seq ((C.block 1 (C.ops [MV 12 3,MV 13 0,MV 14 4,O2 15 (.idxA 2) 13 14,O1 16 (.fldA 0) 15,LD 17 16,⟨some 18,
 none,.bslc 2 1 1 9 [.str []] [(0,1)],[.t 17]⟩,O2 19 (.app 3 1 9 16) 12 18,MV 3 19])).seq (C.ops [MV 10 4,BC 11 .add 10 (i6 1),MV 4 11]))).loop)).seq ((C.ops [MV 20 3,MV 2
 20]).seq
 C.ret))))
theorem qw9:qG Tryz.prog 167 21 4 [RV.tmp 2] qvE:=fi Tryz.f167 [2,5,18,19] qO []
def qvQ:C:=
 ((C.ops [MC 4 (.bool false)]).seq (((C.ops [MC 5 (i6 0)]).seq (C.block 0 (((C.ops [MV 6 5,MV 7 0,O1 8 .len 7,BI 9 .lss 6 8]).seq (C.cond (.t 9) C.skip (C.exit 0))).seq ((C.block
 1 ((C.ops [MV 12 0,MV 13 5,O2 14 (.idxA 1) 12 13,LD 15 14,MV 16 1,BI 17 .eql 15 16]).seq (C.cond (.t 17) ((C.ops [MC 4 (.bool true)]).seq C.ret) C.skip))).seq (C.ops [MV 10 5,
 BC 11 .add 10 (i6 1),MV 5 11]))).loop)).seq ((C.ops [MC 4 (.bool false)]).seq
 C.ret)))
theorem qxm:qG Tryz.prog 200 18 0 [RV.tmp 4] qvQ:=fi Tryz.f200 [] qO []
def qrY:C:=
 ((C.ops [MC 4 (i6 0)]).seq (((C.ops [MV 10 0,O1 11 .len 10,BC 12 .gtr 11 (i6 32)]).seq (C.cond (.t 12) ((C.ops [MC 4 (i6 4)]).seq C.ret) C.skip)).seq (((C.ops [MV 13 0,O1 14
 .len 13,MC 15 (i6 0)]).seq (C.block 0 ((C.ops [BI 16 .lss 15 14]).seq ((C.cond (.t 16) C.skip (C.exit 0)).seq ((C.block 1 ((C.ops [MV 17 15,O2 18 (.idxA 1) 13 15,LD 19 18,MV 5
 17,MV 6 19]).seq (((C.ops [MV 20 6,O1 21 (.call 185 true) 20,O1 22 (.un UnOp.not) 21]).seq (C.cond (.t 22) ((C.ops [MC 4 (i6 14)]).seq C.ret) C.skip)).seq ((C.ops [MV 23 0,MV
 24 5,O2 25 (.slc 1 false true) 23 24,MV 26 6,O2 27 (.call 43 true) 25 26]).seq (C.cond (.t 27) ((C.ops [MC 4 (i6 7)]).seq C.ret) C.skip))))).seq (C.ops [BC 28 .add 15 (i6 1),MV
 15 28])))).loop)).seq (((C.ops [MV 29 1,O1 30 .len 29,BC 31 .gtr 30 (i6 16)]).seq (C.cond (.t 31) ((C.ops [MC 4 (i6 4)]).seq C.ret) C.skip)).seq (((C.ops [MV 32 1,O1 33 .len 32,
 MC 34 (i6 0)]).seq (C.block 2 ((C.ops [BI 35 .lss 34 33]).seq ((C.cond (.t 35) C.skip (C.exit 2)).seq ((C.block 3 ((C.ops [MV 36 34,O2 37 (.idxA 2) 32 34,O1 38 (.load (some 2))
 37,⟨some 8,none,.alloc 0 167 [.str [],.nl],[]⟩,MV 7 36,ST 2 8 38]).seq ((C.block 4 ((C.ops [O1 40 (.fldA 0) 8,LD 41 40,O1 42 (.call 186 true) 41,O1 43 (.un UnOp.not) 42,
 MV 39 43]).seq (C.cond (.t 39) ((C.ops [MC 4 (i6 14)]).seq C.ret) ((C.ops [MV 45 0,O1 46 (.fldA 0) 8,LD 47 46,O2 48 (.call 43 true) 45 47,MV 49 48,MG 50 49 false 1,MG 51 49
 false 7,P2 52 49 false (.slc 2 false true) 50 51,P1 53 49 false (.mkfn (Fn.func 188) 0) 8,P2 54 49 false (.call 187 true) 52 53,PT 55 49 54,MV 44 55]).seq (C.cond (.t 44)
 ((C.ops [MC 4 (i6 7)]).seq C.ret) ((C.ops [O1 57 (.fldA 1) 8,LD 58 57,O1 59 .len 58,BC 60 .eql 59 (i6 0),MV 56 60]).seq (C.cond (.t 56) ((C.ops [MC 4 (i6 5)]).seq C.ret)
 C.skip))))))).seq ((C.ops [O1 61 (.fldA 1) 8,LD 62 61,MV 63 0,O1 64 .len 63,O2 65 (.call 189 true) 62 64,MV 9 65]).seq ((C.ops [MV 66 9,BC 67 .neq 66 (i6 0)]).seq (C.cond (.t
 67) ((C.ops [MV 68 9,MV 4 68]).seq C.ret) C.skip)))))).seq (C.ops [BC 69 .add 34 (i6 1),MV 34 69])))).loop)).seq ((C.ops [MC 4 (i6 0)]).seq
 C.ret))))))
theorem qqL:qG Tryz.prog 122 70 1 [RV.tmp 4] qrY:=fi Tryz.f122 [8] qO []
def qrR:C:=
 ((C.ops [ON 6 (.nilo 0 1 9) [],MC 7 (i6 0)]).seq ((C.ops [MV 16 0,MV 17 1,MV 18 2,ON 19 (.call 169 true) [.t 16,.t 17,.t 18],MV 15 19,O1 20 (.ext 0) 15,O1 21 (.ext 1) 15,
 MV 8 20,MV 9 21]).seq (((C.ops [MV 22 9,BC 23 .neq 22 (i6 0)]).seq (C.cond (.t 23) ((C.ops [MV 24 9,ON 6 (.nilo 0 1 9) [],MV 7 24]).seq C.ret) C.skip)).seq ((C.ops [MV 25 1,MV
 26 8,MV 27 2,ON 28 (.call 170 true) [.t 25,.t 26,.c (i6 0),.t 27],MV 10 28]).seq (((C.ops [MC 11 (i6 1)]).seq (C.block 0 (((C.ops [MV 29 11,MV 30 8,O1 31 .len 30,ON 32
 (.bin .shl) [.c (i6 1),.t 31],BI 33 .lss 29 32]).seq (C.cond (.t 33) C.skip (C.exit 0))).seq ((C.block 1 ((C.ops [MV 36 1,MV 37 8,MV 38 11,MV 39 2,ON 40 (.call 170 true) [.t
 36,.t 37,.t 38,.t 39],MV 12 40]).seq ((C.ops [MV 41 12,MV 42 10,O2 43 (.call 171 true) 41 42]).seq (C.cond (.t 43) (C.ops [MV 44 12,MV 10 44]) C.skip)))).seq (C.ops [MV 34
 11,BC 35 .add 34 (i6 1),MV 11 35]))).loop)).seq ((C.ops [⟨some 45,none,.bslc 1 1 0 9 [.str []] [],[]⟩,MV 13 45]).seq (((C.ops [MC 14 (i6 0)]).seq (C.block 2 (((C.ops [MV 46
 14,MV 47 10,O1 48 .len 47,BI 49 .lss 46 48]).seq (C.cond (.t 49) C.skip (C.exit 2))).seq ((C.block 3 ((C.ops [MV 52 10,MV 53 14,O2 54 (.idxA 1) 52 53,LD 55 54,MV 56 1,O1 57
 .len 56,BI 58 .lss 55 57]).seq (C.cond (.t 58) (C.ops [MV 59 13,MV 60 1,MV 61 10,MV 62 14,O2 63 (.idxA 1) 61 62,LD 64 63,O2 65 (.idxA 2) 60 64,O1 66 (.fldA 0) 65,LD 67 66,
 ⟨some 68,none,.bslc 2 1 1 9 [.str []] [(0,1)],[.t 67]⟩,O2 69 (.app 3 1 9 16) 59 68,MV 13 69]) (C.ops [MV 70 13,MV 71 0,MV 72 10,MV 73 14,O2 74 (.idxA 1) 72 73,LD 75 74,
 MV 76 1,O1 77 .len 76,BI 78 .sub 75 77,O2 79 (.idxA 1) 71 78,LD 80 79,⟨some 81,none,.bslc 4 1 1 9 [.str []] [(0,1)],[.t 80]⟩,O2 82 (.app 5 1 9 16) 70 81,MV 13
 82])))).seq (C.ops [MV 50 14,BC 51 .add 50 (i6 1),MV 14 51]))).loop)).seq ((C.ops [MV 83 13,MV 6 83,MC 7 (i6 0)]).seq
 C.ret))))))))
theorem qqE:qG Tryz.prog 102 84 6 [RV.tmp 6,RV.tmp 7] qrR:=fi Tryz.f102 [6,45,68,69,81,82] qO []
def qBT:C:=
 ((C.ops [O1 2 (.box 0 58) 0,O1 3 (.box 1 58) 1,MC 4 (.bool false)]).seq (((C.ops [O1 6 (.fldA 0) 2,LD 7 6,O1 8 (.fldA 0) 3,LD 9 8,BI 10 .neq 7 9,MV 11 10,P1 12 11 false
 (.fldA 1) 2,P1 13 11 false (.load none) 12,P1 14 11 false (.fldA 1) 3,P1 15 11 false (.load none) 14,P2 16 11 false (.bin .neq) 13 15,PT 17 11 16,MV 18 17,P1 19 18 false
 (.fldA 2) 2,P1 20 18 false (.load none) 19,P1 21 18 false (.fldA 2) 3,P1 22 18 false (.load none) 21,P2 23 18 false (.bin .neq) 20 22,PT 24 18 23,MV 25 24,P1 26 25 false
 (.fldA 3) 2,P1 27 25 false (.load none) 26,P1 28 25 false (.fldA 3) 3,P1 29 25 false (.load none) 28,P2 30 25 false (.bool true) 27 29,PT 31 25 30,MV 32 31,P1 33 32 false
 (.fldA 4) 2,P1 34 32 false (.load none) 33,P1 35 32 false (.fldA 4) 3,P1 36 32 false (.load none) 35,P2 37 32 false (.call 103 true) 34 36,P1 38 32 false (.un UnOp.not) 37,PT
 39 32 38,MV 40 39,P1 41 40 false (.fldA 5) 2,P1 42 40 false (.load none) 41,P1 43 40 false .len 42,P1 44 40 false (.fldA 5) 3,P1 45 40 false (.load none) 44,P1 46 40 false
 .len 45,P2 47 40 false (.bin .neq) 43 46,PT 48 40 47]).seq (C.cond (.t 48) ((C.ops [MC 4 (.bool false)]).seq C.ret) C.skip)).seq (((C.ops [MC 5 (i6 0)]).seq (C.block 0 (((C.ops
 [MV 49 5,O1 50 (.fldA 5) 2,LD 51 50,O1 52 .len 51,BI 53 .lss 49 52]).seq (C.cond (.t 53) C.skip (C.exit 0))).seq ((C.block 1 ((C.ops [O1 56 (.fldA 5) 2,LD 57 56,MV 58 5,O2
 59 (.idxA 2) 57 58,O1 60 (.fldA 0) 59,LD 61 60,O1 62 (.fldA 5) 3,LD 63 62,MV 64 5,O2 65 (.idxA 2) 63 64,O1 66 (.fldA 0) 65,LD 67 66,O2 68 (.call 103 true) 61 67,O1 69
 (.un UnOp.not) 68,MV 70 69,P1 71 70 false (.fldA 5) 2,P1 72 70 false (.load none) 71,MG 73 70 false 5,P2 74 70 false (.idxA 2) 72 73,P1 75 70 false (.fldA 1) 74,P1 76 70
 false (.load none) 75,P1 77 70 false (.fldA 5) 3,P1 78 70 false (.load none) 77,MG 79 70 false 5,P2 80 70 false (.idxA 2) 78 79,P1 81 70 false (.fldA 1) 80,P1 82 70 false
 (.load none) 81,P2 83 70 false (.call 103 true) 76 82,P1 84 70 false (.un UnOp.not) 83,PT 85 70 84]).seq (C.cond (.t 85) ((C.ops [MC 4 (.bool false)]).seq C.ret) C.skip))).seq
 (C.ops [MV 54 5,BC 55 .add 54 (i6 1),MV 5 55]))).loop)).seq ((C.ops [MC 4 (.bool true)]).seq
 C.ret))))
theorem qAx:qG Tryz.prog 30 86 2 [RV.tmp 4] qBT:=fi Tryz.f30 [2,3] qO []
def qBW:C:=
 ((C.ops [MC 4 (.bool false)]).seq (((C.ops [MC 5 (i6 0)]).seq (C.block 0 (((C.ops [MV 7 5,MV 8 0,O1 9 .len 8,BI 10 .lss 7 9]).seq (C.cond (.t 10) C.skip (C.exit 0))).seq
 ((C.block 1 ((C.ops [MV 13 0,MV 14 5,O2 15 (.idxA 1) 13 14,LD 16 15,O1 17 .slen 16,BC 18 .gtr 17 (i6 20)]).seq (C.cond (.t 18) ((C.ops [MC 4 (.bool true)]).seq C.ret)
 C.skip))).seq (C.ops [MV 11 5,BC 12 .add 11 (i6 1),MV 5 12]))).loop)).seq (((C.ops [MC 6 (i6 0)]).seq (C.block 2 (((C.ops [MV 19 6,MV 20 1,O1 21 .len 20,BI 22 .lss 19 21]).seq
 (C.cond (.t 22) C.skip (C.exit 2))).seq ((C.block 3 ((C.ops [MV 25 1,MV 26 6,O2 27 (.idxA 2) 25 26,O1 28 (.fldA 0) 27,LD 29 28,O1 30 .slen 29,BC 31 .gtr 30 (i6 20),MV 32 31,
 MG 33 32 false 1,MG 34 32 false 6,P2 35 32 false (.idxA 2) 33 34,P1 36 32 false (.fldA 1) 35,P1 37 32 false (.load none) 36,P1 38 32 false .len 37,PC 39 32 false (.bin .gtr)
 38 (i6 40),PT 40 32 39]).seq (C.cond (.t 40) ((C.ops [MC 4 (.bool true)]).seq C.ret) C.skip))).seq (C.ops [MV 23 6,BC 24 .add 23 (i6 1),MV 6 24]))).loop)).seq ((C.ops [MV 41 0,
 O1 42 .len 41,BC 43 .gtr 42 (i6 8),MV 44 43,MG 45 44 true 0,P1 46 44 true .len 45,PC 47 44 true (.bin .leq) 46 (i6 32),PF 48 44 47,MV 49 48,MG 50 49 false 0,P1 51 49 false
 .len 50,PC 52 49 false (.bin .gtr) 51 (i6 34),PT 53 49 52,MV 54 53,MG 55 54 false 1,P1 56 54 false .len 55,PC 57 54 false (.bin .gtr) 56 (i6 5),MG 58 54 false 57,MG 59 58
 true 1,P1 60 58 true .len 59,PC 61 58 true (.bin .leq) 60 (i6 16),QF 62 54 false 58 61,PT 63 54 62,MV 64 63,MG 65 64 false 1,P1 66 64 false .len 65,PC 67 64 false (.bin
 .gtr) 66 (i6 18),PT 68 64 67,MV 4 68]).seq
 C.ret))))
theorem qAG:qG Tryz.prog 69 69 0 [RV.tmp 4] qBW:=fi Tryz.f69 [] qO []
def qj2:C:=
 ((C.ops [MC 2 (.bool false)]).seq (((C.ops [MV 4 0,O1 5 .slen 4,MV 3 5]).seq ((C.ops [MV 6 3,BC 7 .gtr 6 (i6 0),MV 8 7,MG 9 8 true 0,MG 10 8 true 3,PC 11 8 true (.bin .sub)
 10 (i6 1),P2 12 8 true .sidx 9 11,PC 13 8 true (.bin .eql) 12 (.int .u8 42),PF 14 8 13]).seq (C.cond (.t 14) ((C.ops [MV 15 3,BC 16 .leq 15 (i6 16),MV 17 16,MG 18 17 true 0,
 MG 19 17 true 3,PC 20 17 true (.bin .sub) 19 (i6 1),P2 21 17 true (.sslc false true) 18 20,P1 22 17 true (.call 166 true) 21,PF 23 17 22,MV 2 23]).seq C.ret) C.skip))).seq
 ((C.ops [MV 24 0,O1 25 (.call 166 true) 24,MV 2 25]).seq
 C.ret)))
theorem qgD:qG Tryz.prog 164 26 0 [RV.tmp 2] qj2:=fi Tryz.f164 [] qO []
def qvF:C:=
 ((C.ops [MC 4 (i6 0)]).seq (((C.ops [MC 5 (i6 0)]).seq (C.block 0 (((C.ops [MV 6 5,MV 7 1,O1 8 .len 7,BI 9 .lss 6 8]).seq (C.cond (.t 9) C.skip (C.exit 0))).seq ((C.block 1
 (((C.ops [MV 12 1,MV 13 5,O2 14 (.idxA 1) 12 13,LD 15 14,BC 16 .lss 15 (i6 0),MV 17 16,MG 18 17 false 1,MG 19 17 false 5,P2 20 17 false (.idxA 1) 18 19,P1 21 17 false
 (.load none) 20,MG 22 17 false 0,P2 23 17 false (.bin .geq) 21 22,PT 24 17 23]).seq (C.cond (.t 24) ((C.ops [MC 4 (i6 2)]).seq C.ret) C.skip)).seq ((C.ops [MV 25 5,BC 26 .gtr
 25 (i6 0),MV 27 26,MG 28 27 true 1,MG 29 27 true 5,P2 30 27 true (.idxA 1) 28 29,P1 31 27 true (.load none) 30,MG 32 27 true 1,MG 33 27 true 5,PC 34 27 true (.bin .sub) 33
 (i6 1),P2 35 27 true (.idxA 1) 32 34,P1 36 27 true (.load none) 35,P2 37 27 true (.bin .leq) 31 36,PF 38 27 37]).seq (C.cond (.t 38) ((C.ops [MC 4 (i6 10)]).seq C.ret)
 C.skip)))).seq (C.ops [MV 10 5,BC 11 .add 10 (i6 1),MV 5 11]))).loop)).seq ((C.ops [MC 4 (i6 0)]).seq
 C.ret)))
theorem qxa:qG Tryz.prog 168 39 0 [RV.tmp 4] qvF:=fi Tryz.f168 [] qO []
def qrS:C:=
 ((C.ops [MC 4 (.bool false)]).seq (((C.ops [MV 6 0,O1 7 .len 6,MV 8 1,O1 9 .len 8,BI 10 .neq 7 9]).seq (C.cond (.t 10) ((C.ops [MC 4 (.bool false)]).seq C.ret) C.skip)).seq
 (((C.ops [MC 5 (i6 0)]).seq (C.block 0 (((C.ops [MV 11 5,MV 12 0,O1 13 .len 12,BI 14 .lss 11 13]).seq (C.cond (.t 14) C.skip (C.exit 0))).seq ((C.block 1 ((C.ops [MV 17 0,MV 18
 5,O2 19 (.idxA 1) 17 18,LD 20 19,MV 21 1,MV 22 5,O2 23 (.idxA 1) 21 22,LD 24 23,BI 25 .neq 20 24]).seq (C.cond (.t 25) ((C.ops [MC 4 (.bool false)]).seq C.ret) C.skip))).seq
 (C.ops [MV 15 5,BC 16 .add 15 (i6 1),MV 5 16]))).loop)).seq ((C.ops [MC 4 (.bool true)]).seq
 C.ret))))
theorem qqF:qG Tryz.prog 103 26 0 [RV.tmp 4] qrS:=fi Tryz.f103 [] qO []
def qj3:C:=
 ((C.ops [MC 2 (.bool false)]).seq ((C.ops [MV 6 0,OC 7 (.call 241 true) 6 (.str [42]),MV 5 7,O1 8 (.ext 0) 5,O1 9 (.ext 1) 5,MV 3 8,MV 4 9]).seq ((C.ops [MV 10 3,O1 11
 (.call 186 true) 10,MV 12 11,MG 13 12 true 4,P1 14 12 true (.un UnOp.not) 13,MG 15 12 true 14,MG 16 15 false 0,P1 17 15 false .slen 16,PC 18 15 false (.bin .leq) 17 (i6 16),
 QT 19 12 true 15 18,PF 20 12 19,MV 2 20]).seq
 C.ret)))
theorem qgE:qG Tryz.prog 185 21 0 [RV.tmp 2] qj3:=fi Tryz.f185 [] qO []
theorem qAA:qG Tryz.prog 43 9 0 [RV.tmp 4] (cCT 117):=fi Tryz.f43 [] qO []
theorem qxf:qG Tryz.prog 187 9 0 [RV.tmp 4] (cCT 123):=fi Tryz.f187 [] qO []
def qvK:C:=
 ((C.ops [O1 2 (.box 0 167) 0,MC 3 (.bool false)]).seq ((C.ops [O1 4 (.fldA 0) 2,LD 5 4,O1 6 (.fldA 0) 1,LD 7 6,BI 8 .eql 5 7,MV 3 8]).seq
 C.ret))
theorem qxg:qG Tryz.prog 188 9 1 [RV.tmp 3] qvK:=fi Tryz.f188 [2] qO []
def qvL:C:=
 ((C.ops [MC 4 (i6 0)]).seq (((C.ops [MV 7 0,O1 8 .len 7,MC 9 (i6 0)]).seq (C.block 0 ((C.ops [BI 10 .lss 9 8]).seq ((C.cond (.t 10) C.skip (C.exit 0)).seq ((C.block 1 ((C.ops [MV
 11 9,O2 12 (.idxA 1) 7 9,LD 13 12,MV 5 11,MV 6 13]).seq (((C.ops [MV 14 6,BC 15 .lss 14 (i6 0),MV 16 15,MG 17 16 false 6,MG 18 16 false 1,P2 19 16 false (.bin .geq) 17 18,
 PT 20 16 19]).seq (C.cond (.t 20) ((C.ops [MC 4 (i6 2)]).seq C.ret) C.skip)).seq ((C.ops [MV 21 5,BC 22 .gtr 21 (i6 0),MV 23 22,MG 24 23 true 6,MG 25 23 true 0,MG 26 23 true
 5,PC 27 23 true (.bin .sub) 26 (i6 1),P2 28 23 true (.idxA 1) 25 27,P1 29 23 true (.load none) 28,P2 30 23 true (.bin .leq) 24 29,PF 31 23 30]).seq (C.cond (.t 31) ((C.ops [MC
 4 (i6 10)]).seq C.ret) C.skip))))).seq (C.ops [BC 32 .add 9 (i6 1),MV 9 32])))).loop)).seq ((C.ops [MC 4 (i6 0)]).seq
 C.ret)))
theorem qxh:qG Tryz.prog 189 33 0 [RV.tmp 4] qvL:=fi Tryz.f189 [] qO []
def qr5:C:=
 ((C.ops [MC 6 (i6 0)]).seq (((C.ops [MV 7 0,MV 8 1,O2 9 (.call 122 true) 7 8,BC 10 .neq 9 (i6 0)]).seq (C.cond (.t 10) ((C.ops [MC 6 (i6 1)]).seq C.ret) C.skip)).seq ((C.ops [MV
 11 2,MV 12 0,O1 13 .len 12,O2 14 (.call 189 true) 11 13,MV 6 14]).seq
 C.ret)))
theorem qqU:qG Tryz.prog 196 15 0 [RV.tmp 6] qr5:=fi Tryz.f196 [] qO []
def qvu:C:=
 ((C.ops [MC 2 (.int .u64 0)]).seq ((C.ops [MC 3 (.int .u64 0)]).seq (((C.ops [MV 6 0,O1 7 .len 6,MC 8 (i6 0)]).seq (C.block 0 ((C.ops [BI 9 .lss 8 7]).seq ((C.cond (.t 9) C.skip
 (C.exit 0)).seq ((C.block 1 ((C.ops [O2 10 (.idxA 1) 6 8,LD 11 10,MV 5 11]).seq (C.ops [MV 12 3,MV 13 5,ON 14 (.bin .shl) [.c (.int .u64 1),.t 13],BI 15 .or 12 14,MV 3
 15]))).seq (C.ops [BC 16 .add 8 (i6 1),MV 8 16])))).loop)).seq ((C.ops [MV 17 3,MV 2 17]).seq
 C.ret))))
theorem qwY:qG Tryz.prog 125 18 0 [RV.tmp 2] qvu:=fi Tryz.f125 [] qO []
def qvN:C:=
 ((C.ops [ON 4 (.nilo 0 1 3) []]).seq ((C.ops [ON 5 (.nilo 1 1 3) []]).seq (((C.ops [MV 8 0,O1 9 .len 8,MC 10 (i6 0)]).seq (C.block 0 ((C.ops [BI 11 .lss 10 9]).seq ((C.cond (.t
 11) C.skip (C.exit 0)).seq ((C.block 1 ((C.ops [MV 12 10,O2 13 (.idxA 2) 8 10,O1 14 (.load (some 2)) 13,⟨some 7,none,.alloc 2 167 [.str [],.nl],[]⟩,MV 6 12,ST 2 7 14]).seq
 ((C.ops [O1 15 (.fldA 1) 7,LD 16 15,O1 17 (.call 125 true) 16,MV 18 1,BI 19 .andNot 17 18,BC 20 .eql 19 (.int .u64 0)]).seq (C.cond (.t 20) (C.ops [MV 21 5,MV 22 6,⟨some 23,
 none,.bslc 3 1 1 3 [i6 0] [(0,1)],[.t 22]⟩,O2 24 (.app 4 1 3 8) 21 23,MV 5 24]) C.skip)))).seq (C.ops [BC 25 .add 10 (i6 1),MV 10 25])))).loop)).seq ((C.ops [MV 26 5,MV 4
 26]).seq
 C.ret))))
theorem qxj:qG Tryz.prog 197 27 5 [RV.tmp 4] qvN:=fi Tryz.f197 [4,5,7,23,24] qO []
def qvO:C:=
 ((C.ops [O1 1 (.box 0 224) 0,MC 2 .nilfn]).seq ((C.ops [O1 3 (.mkfn (Fn.func 245) 0) 1,MV 2 3]).seq
 C.ret))
theorem qxk:qG Tryz.prog 198 4 1 [RV.tmp 2] qvO:=fi Tryz.f198 [1] qO []
def qvP:C:=
 ((C.ops [MC 2 (i6 0)]).seq ((C.ops [MV 3 0,BC 4 .shr 3 (.int .u64 1),BC 5 .and 4 (.int .u64 6148914691236517205),MV 6 0,BC 7 .and 6 (.int .u64 6148914691236517205),BI 8 .add 5
 7,MV 0 8]).seq ((C.ops [MV 9 0,BC 10 .shr 9 (.int .u64 2),BC 11 .and 10 (.int .u64 3689348814741910323),MV 12 0,BC 13 .and 12 (.int .u64 3689348814741910323),BI 14 .add 11
 13,MV 0 14]).seq ((C.ops [MV 15 0,BC 16 .shr 15 (.int .u64 4),MV 17 0,BI 18 .add 16 17,BC 19 .and 18 (.int .u64 1085102592571150095),MV 0 19]).seq ((C.ops [MV 20 0,MV 21 0,
 BC 22 .shr 21 (.int .u64 8),BI 23 .add 20 22,MV 0 23]).seq ((C.ops [MV 24 0,MV 25 0,BC 26 .shr 25 (.int .u64 16),BI 27 .add 24 26,MV 0 27]).seq ((C.ops [MV 28 0,MV 29 0,BC
 30 .shr 29 (.int .u64 32),BI 31 .add 28 30,MV 0 31]).seq ((C.ops [MV 32 0,O1 33 (.conv .i64) 32,BC 34 .and 33 (i6 127),MV 2 34]).seq
 C.ret))))))))
theorem qxl:qG Tryz.prog 199 35 0 [RV.tmp 2] qvP:=fi Tryz.f199 [] qO []
def qvv:C:=
 ((C.ops [ON 2 (.nilo 0 1 3) []]).seq ((C.ops [ON 3 (.nilo 1 1 3) []]).seq (((C.ops [MC 5 (i6 0)]).seq (C.block 0 ((C.ops [BC 6 .lss 5 (i6 64)]).seq ((C.cond (.t 6) C.skip (C.exit
 0)).seq ((C.block 1 ((C.ops [MV 7 5,MV 4 7]).seq ((C.ops [MV 8 0,MV 9 4,BI 10 .shr 8 9,BC 11 .and 10 (.int .u64 1),BC 12 .eql 11 (.int .u64 1)]).seq (C.cond (.t 12) (C.ops [MV
 13 3,MV 14 4,⟨some 15,none,.bslc 2 1 1 3 [i6 0] [(0,1)],[.t 14]⟩,O2 16 (.app 3 1 3 8) 13 15,MV 3 16]) C.skip)))).seq (C.ops [BC 17 .add 5 (i6 1),MV 5 17])))).loop)).seq
 ((C.ops [MV 18 3,MV 2 18]).seq
 C.ret))))
theorem qwZ:qG Tryz.prog 126 19 4 [RV.tmp 2] qvv:=fi Tryz.f126 [2,3,15,16] qO []
def qBV:C:=
 ((C.ops [MC 4 (i6 0)]).seq (((C.ops [MV 9 0,O1 10 .len 9,MC 11 (i6 0)]).seq (C.block 0 ((C.ops [BI 12 .lss 11 10]).seq ((C.cond (.t 12) C.skip (C.exit 0)).seq ((C.block 1 ((C.ops
 [MV 13 11,O2 14 (.idxA 1) 9 11,LD 15 14,MV 5 13,MV 6 15]).seq (((C.ops [MV 16 5,MV 17 1,O1 18 .len 17,BI 19 .geq 16 18]).seq (C.cond (.t 19) ((C.ops [MC 4 (i6 1)]).seq
 C.ret) C.skip)).seq ((C.ops [MV 20 1,MV 21 5,O2 22 (.idxA 1) 20 21,LD 23 22,MV 7 23]).seq ((C.ops [MV 24 6,MV 25 7,O2 26 (.call 141 true) 24 25,MV 8 26]).seq ((C.ops [MV 27
 8,BC 28 .neq 27 (i6 0)]).seq (C.cond (.t 28) ((C.ops [MV 29 8,MV 4 29]).seq C.ret) C.skip))))))).seq (C.ops [BC 30 .add 11 (i6 1),MV 11 30])))).loop)).seq (((C.ops [MV 31 0,O1
 32 .len 31,MV 33 1,O1 34 .len 33,BI 35 .lss 32 34]).seq (C.cond (.t 35) ((C.ops [MC 4 (i6 (-1))]).seq C.ret) C.skip)).seq ((C.ops [MC 4 (i6 0)]).seq
 C.ret))))
theorem qAF:qG Tryz.prog 66 36 0 [RV.tmp 4] qBV:=fi Tryz.f66 [] qO []
theorem qwV:qG Tryz.prog 117 19 0 [RV.tmp 4] cIX:=fi Tryz.f117 [] qO []
theorem qwX:qG Tryz.prog 123 19 0 [RV.tmp 4] (cIF 2 (some 2)):=fi Tryz.f123 [] qO []
def qr1:C:=
 ((C.ops [ON 6 (.nilo 0 1 3) [],MC 7 (i6 0)]).seq (((C.ops [MV 11 0,MV 12 1,MV 13 2,ON 14 (.call 218 true) [.t 11,.t 12,.t 13],MV 8 14]).seq ((C.ops [MV 15 8,BC 16 .neq 15
 (i6 0)]).seq (C.cond (.t 16) ((C.ops [MV 17 8,ON 6 (.nilo 0 1 3) [],MV 7 17]).seq C.ret) C.skip))).seq ((C.ops [⟨some 18,none,.bslc 1 1 0 3 [i6 0] [],[]⟩,MV 9 18]).seq
 (((C.ops [MC 10 (i6 0)]).seq (C.block 0 (((C.ops [MV 19 10,MV 20 1,O1 21 .len 20,BI 22 .lss 19 21]).seq (C.cond (.t 22) C.skip (C.exit 0))).seq ((C.block 1 ((C.ops [MV 25 1,MV
 26 10,O2 27 (.idxA 2) 25 26,O1 28 (.fldA 1) 27,LD 29 28,MV 30 2,O2 31 (.call 219 true) 29 30]).seq (C.cond (.t 31) (C.ops [MV 32 9,MV 33 10,⟨some 34,none,.bslc 2 1 1 3 [i6
 0] [(0,1)],[.t 33]⟩,O2 35 (.app 3 1 3 8) 32 34,MV 9 35]) C.skip))).seq (C.ops [MV 23 10,BC 24 .add 23 (i6 1),MV 10 24]))).loop)).seq ((C.ops [MV 36 9,MV 6 36,MC 7 (i6
 0)]).seq
 C.ret)))))
theorem qqQ:qG Tryz.prog 169 37 4 [RV.tmp 6,RV.tmp 7] qr1:=fi Tryz.f169 [6,18,34,35] qO []
def qvG:C:=
 ((C.ops [ON 8 (.nilo 0 1 3) []]).seq ((C.ops [⟨some 15,none,.bslc 1 1 0 3 [i6 0] [],[]⟩,MV 9 15]).seq ((C.ops [MV 16 3,MV 10 16]).seq (((C.ops [MC 11 (i6 0)]).seq (C.block 0
 (((C.ops [MV 17 11,MV 18 1,O1 19 .len 18,BI 20 .lss 17 19]).seq (C.cond (.t 20) C.skip (C.exit 0))).seq ((C.block 1 (((C.ops [MV 23 2,MV 24 11,BI 25 .shr 23 24,BC 26 .and 25
 (i6 1),BC 27 .eql 26 (i6 0)]).seq (C.cond (.t 27) (C.exit 1) C.skip)).seq ((C.ops [MV 28 9,MV 29 1,MV 30 11,O2 31 (.idxA 1) 29 30,LD 32 31,⟨some 33,none,.bslc 2 1 1 3 [i6
 0] [(0,1)],[.t 32]⟩,O2 34 (.app 3 1 3 8) 28 33,MV 9 34]).seq ((C.ops [⟨some 35,none,.bslc 4 1 0 3 [i6 0] [],[]⟩,MV 12 35]).seq (((C.ops [MC 13 (i6 0)]).seq (C.block 2
 (((C.ops [MV 36 13,MV 37 10,O1 38 .len 37,BI 39 .lss 36 38]).seq (C.cond (.t 39) C.skip (C.exit 2))).seq ((C.block 3 ((C.ops [MV 42 0,MV 43 1,MV 44 11,O2 45 (.idxA 1) 43 44,
 LD 46 45,O2 47 (.idxA 2) 42 46,O1 48 (.fldA 1) 47,LD 49 48,MV 50 10,MV 51 13,O2 52 (.idxA 1) 50 51,LD 53 52,O2 54 (.call 200 true) 49 53,O1 55 (.un UnOp.not) 54]).seq
 (C.cond (.t 55) (C.ops [MV 56 12,MV 57 10,MV 58 13,O2 59 (.idxA 1) 57 58,LD 60 59,⟨some 61,none,.bslc 5 1 1 3 [i6 0] [(0,1)],[.t 60]⟩,O2 62 (.app 6 1 3 8) 56 61,MV 12
 62]) C.skip))).seq (C.ops [MV 40 13,BC 41 .add 40 (i6 1),MV 13 41]))).loop)).seq (C.ops [MV 63 12,MV 10 63])))))).seq (C.ops [MV 21 11,BC 22 .add 21 (i6 1),MV 11
 22]))).loop)).seq (((C.ops [MC 14 (i6 0)]).seq (C.block 4 (((C.ops [MV 64 14,MV 65 10,O1 66 .len 65,BI 67 .lss 64 66]).seq (C.cond (.t 67) C.skip (C.exit 4))).seq ((C.block 5
 (C.ops [MV 70 9,MV 71 0,O1 72 .len 71,MV 73 10,MV 74 14,O2 75 (.idxA 1) 73 74,LD 76 75,BI 77 .add 72 76,⟨some 78,none,.bslc 7 1 1 3 [i6 0] [(0,1)],[.t 77]⟩,O2 79 (.app
 8 1 3 8) 70 78,MV 9 79])).seq (C.ops [MV 68 14,BC 69 .add 68 (i6 1),MV 14 69]))).loop)).seq ((C.ops [MV 80 9,MV 8 80]).seq
 C.ret))))))
theorem qxb:qG Tryz.prog 170 81 9 [RV.tmp 8] qvG:=fi Tryz.f170 [8,15,33,34,35,61,62,78,79] qO []
def qr2:C:=
 ((C.ops [MC 4 (.bool false)]).seq (((C.ops [MV 6 0,O1 7 .len 6,MV 8 1,O1 9 .len 8,BI 10 .neq 7 9]).seq (C.cond (.t 10) ((C.ops [MV 11 0,O1 12 .len 11,MV 13 1,O1 14 .len 13,
 BI 15 .lss 12 14,MV 4 15]).seq C.ret) C.skip)).seq (((C.ops [MC 5 (i6 0)]).seq (C.block 0 (((C.ops [MV 16 5,MV 17 0,O1 18 .len 17,BI 19 .lss 16 18]).seq (C.cond (.t 19) C.skip
 (C.exit 0))).seq ((C.block 1 ((C.ops [MV 22 0,MV 23 5,O2 24 (.idxA 1) 22 23,LD 25 24,MV 26 1,MV 27 5,O2 28 (.idxA 1) 26 27,LD 29 28,BI 30 .neq 25 29]).seq (C.cond (.t 30)
 ((C.ops [MV 31 0,MV 32 5,O2 33 (.idxA 1) 31 32,LD 34 33,MV 35 1,MV 36 5,O2 37 (.idxA 1) 35 36,LD 38 37,BI 39 .lss 34 38,MV 4 39]).seq C.ret) C.skip))).seq (C.ops [MV 20 5,
 BC 21 .add 20 (i6 1),MV 5 21]))).loop)).seq ((C.ops [MC 4 (.bool false)]).seq
 C.ret))))
theorem qqR:qG Tryz.prog 171 40 0 [RV.tmp 4] qr2:=fi Tryz.f171 [] qO []
def qvw:C:=
 ((C.ops [MC 4 (.bool false)]).seq ((C.ops [MV 5 0,MV 6 1,O2 7 (.call 53 true) 5 6,MV 4 7]).seq
 C.ret))
theorem qw0:qG Tryz.prog 139 8 0 [RV.tmp 4] qvw:=fi Tryz.f139 [] qO []
def qnY:C:=
 ((C.ops [MC 4 (i6 0)]).seq ((C.ops [MV 7 0,O1 8 (.call 195 true) 7,MV 5 8]).seq ((C.ops [MV 9 1,O1 10 (.call 195 true) 9,MV 6 10]).seq (((C.ops [MV 11 5]).seq (C.cond (.t 11)
 (((C.ops [MV 12 6]).seq (C.cond (.t 12) ((C.ops [MC 4 (i6 0)]).seq C.ret) C.skip)).seq ((C.ops [MC 4 (i6 (-1))]).seq C.ret)) C.skip)).seq (((C.ops [MV 13 6]).seq (C.cond (.t 13)
 ((C.ops [MC 4 (i6 1)]).seq C.ret) C.skip)).seq (((C.ops [MV 14 0,MV 15 1,BI 16 .lss 14 15]).seq (C.cond (.t 16) ((C.ops [MC 4 (i6 (-1))]).seq C.ret) C.skip)).seq (((C.ops [MV 17
 0,MV 18 1,BI 19 .gtr 17 18]).seq (C.cond (.t 19) ((C.ops [MC 4 (i6 1)]).seq C.ret) C.skip)).seq ((C.ops [MC 4 (i6 0)]).seq
 C.ret))))))))
theorem qk4:qG Tryz.prog 141 20 0 [RV.tmp 4] qnY:=fi Tryz.f141 [] qO []
def qv1:C:=
 ((C.ops [MC 4 (.str []),MC 5 (.bool false)]).seq ((C.ops [MV 6 0,MV 7 1,O2 8 (.call 284 true) 6 7,O1 9 (.ext 0) 8,O1 10 (.ext 1) 8,MV 4 9,MV 5 10]).seq
 C.ret))
theorem qxy:qG Tryz.prog 241 11 0 [RV.tmp 4,RV.tmp 5] qv1:=fi Tryz.f241 [] qO []
def qv3:C:=
 ((C.ops [LD 7 1,O1 8 .len 7,ON 9 (.bin .shl) [.c (.int .u64 1),.t 8],MC 10 (.int .u64 0)]).seq (C.block 0 ((C.ops [BI 11 .lss 10 9]).seq ((C.cond (.t 11) C.skip (C.exit 0)).seq
 ((C.block 1 ((C.ops [MV 12 10,MV 3 12]).seq ((C.ops [MC 4 (.int .u64 0)]).seq (((C.ops [LD 13 1,O1 14 .len 13,MC 15 (i6 0)]).seq (C.block 2 ((C.ops [BI 16 .lss 15 14]).seq
 ((C.cond (.t 16) C.skip (C.exit 2)).seq ((C.block 3 ((C.ops [MV 17 15,O2 18 (.idxA 1) 13 15,LD 19 18,MV 5 17,MV 6 19]).seq ((C.ops [MV 20 3,MV 21 5,BI 22 .shr 20 21,BC 23
 .and 22 (.int .u64 1),BC 24 .eql 23 (.int .u64 1)]).seq (C.cond (.t 24) (C.ops [MV 25 4,MV 26 6,BI 27 .or 25 26,MV 4 27]) C.skip)))).seq (C.ops [BC 28 .add 15 (i6 1),MV 15
 28])))).loop)).seq ((C.ops [MV 29 0,MV 30 3,MV 31 4,ON 32 .callv [.t 29,.t 30,.t 31],O1 33 (.un UnOp.not) 32]).seq (C.cond (.t 33) C.ret C.skip)))))).seq (C.ops [BC 34 .add
 10 (.int .u64 1),MV 10
 34])))).loop))
theorem qxA:qG Tryz.prog 245 35 0 [] qv3:=fi Tryz.f245 [] qO []
def qr6:C:=
 ((C.ops [MC 6 (i6 0)]).seq (((C.ops [MV 7 0,MV 8 1,O2 9 (.call 98 true) 7 8,BC 10 .neq 9 (i6 0)]).seq (C.cond (.t 10) ((C.ops [MC 6 (i6 1)]).seq C.ret) C.skip)).seq ((C.ops [MV
 11 0,O1 12 .len 11,MV 13 2,O2 14 (.call 168 true) 12 13,MV 6 14]).seq
 C.ret)))
theorem qqV:qG Tryz.prog 218 15 0 [RV.tmp 6] qr6:=fi Tryz.f218 [] qO []
def qvW:C:=
 ((C.ops [MC 4 (.bool false)]).seq (((C.ops [MC 5 (i6 0)]).seq (C.block 0 (((C.ops [MV 6 5,MV 7 0,O1 8 .len 7,BI 9 .lss 6 8]).seq (C.cond (.t 9) C.skip (C.exit 0))).seq ((C.block
 1 ((C.ops [MV 12 1,MV 13 0,MV 14 5,O2 15 (.idxA 1) 13 14,LD 16 15,O2 17 (.call 200 true) 12 16,O1 18 (.un UnOp.not) 17]).seq (C.cond (.t 18) ((C.ops [MC 4 (.bool false)]).seq
 C.ret) C.skip))).seq (C.ops [MV 10 5,BC 11 .add 10 (i6 1),MV 5 11]))).loop)).seq ((C.ops [MC 4 (.bool true)]).seq
 C.ret)))
theorem qxt:qG Tryz.prog 219 19 0 [RV.tmp 4] qvW:=fi Tryz.f219 [] qO []
def qBX:C:=
 ((C.ops [MC 4 (.bool false)]).seq (((C.ops [MC 5 (i6 0)]).seq (C.block 0 (((C.ops [MV 6 5,MV 7 0,O1 8 .len 7,BI 9 .lss 6 8]).seq (C.cond (.t 9) C.skip (C.exit 0))).seq ((C.block
 1 ((C.ops [MV 12 0,MV 13 5,O2 14 (.idxA 1) 12 13,LD 15 14,O1 16 .slen 15,BC 17 .gtr 16 (i6 20)]).seq (C.cond (.t 17) ((C.ops [MC 4 (.bool true)]).seq C.ret) C.skip))).seq
 (C.ops [MV 10 5,BC 11 .add 10 (i6 1),MV 5 11]))).loop)).seq ((C.ops [MV 18 0,O1 19 .len 18,MV 20 1,BI 21 .gtr 19 20,MV 4 21]).seq
 C.ret)))
theorem qAH:qG Tryz.prog 70 22 0 [RV.tmp 4] qBX:=fi Tryz.f70 [] qO []
def qsf:C:=
 ((C.ops [MC 4 (.str []),MC 5 (.bool false)]).seq (((C.ops [MV 6 0,MV 7 1,O2 8 (.call 304 true) 6 7,O1 9 (.un UnOp.not) 8]).seq (C.cond (.t 9) ((C.ops [MV 10 0,MV 4 10,MC 5
 (.bool false)]).seq C.ret) C.skip)).seq ((C.ops [MV 11 0,MV 12 0,O1 13 .slen 12,MV 14 1,O1 15 .slen 14,BI 16 .sub 13 15,O2 17 (.sslc false true) 11 16,MV 4 17,MC 5 (.bool
 true)]).seq
 C.ret)))
theorem qq3:qG Tryz.prog 284 18 0 [RV.tmp 4,RV.tmp 5] qsf:=fi Tryz.f284 [] qO []
def jA:C:=
 ((C.ops [O1 1 (.box 0 124) 0,MC 2 (i6 0)]).seq (((C.ops [O1 6 (.fldA 4) 1,LD 7 6,BC 8 .lss 7 (i6 0),MV 9 8,P1 10 9 false (.fldA 4) 1,P1 11 9 false (.load none) 10,PC 12 9
 false (.bin .gtr) 11 (i6 31),PT 13 9 12]).seq (C.cond (.t 13) ((C.ops [MC 2 (i6 2)]).seq C.ret) C.skip)).seq ((C.ops [O1 14 (.load (some 6)) 1,OC 15 (.call 255 true) 14 (i6 2),
 O1 16 (.load (some 6)) 1,OC 17 (.call 255 true) 16 (i6 8),MV 3 15,MV 4 17]).seq (((C.ops [MV 18 3,MV 19 18,MG 20 19 true 4,PF 21 19 20]).seq (C.cond (.t 21) ((C.ops [MC 2 (i6
 8)]).seq C.ret) C.skip)).seq ((C.block 0 ((C.ops [MV 51 3,MV 50 51]).seq (C.cond (.t 50) ((C.ops [O1 52 (.fldA 0) 1,LD 53 52,O1 54 (.call 256 true) 53,O1 55 (.un UnOp.not) 54,
 MV 56 55,P1 57 56 false (.fldA 1) 1,P1 58 56 false (.load none) 57,P1 59 56 false (.fldA 0) 1,P1 60 56 false (.load none) 59,P2 61 56 false (.bin .neq) 58 60,PT 62 56
 61]).seq (C.cond (.t 62) ((C.ops [MC 2 (i6 11)]).seq C.ret) C.skip)) ((C.ops [MV 64 4,MV 63 64]).seq (C.cond (.t 63) ((C.ops [O1 65 (.fldA 0) 1,LD 66 65,O1 67 .slen 66,BC 68
 .neq 67 (i6 1),MV 69 68,P1 70 69 false (.fldA 0) 1,P1 71 69 false (.load none) 70,PC 72 69 false .sidx 71 (i6 0),P1 73 69 false (.call 257 true) 72,PC 74 69 false (.bin .neq)
 73 (i6 5),MG 75 69 false 74,P1 76 75 true (.fldA 0) 1,P1 77 75 true (.load none) 76,PC 78 75 true .sidx 77 (i6 0),P1 79 75 true (.call 257 true) 78,PC 80 75 true (.bin .neq)
 79 (i6 4),QF 81 69 false 75 80,PT 82 69 81,MV 83 82,P1 84 83 false (.fldA 1) 1,P1 85 83 false (.load none) 84,P1 86 83 false (.fldA 0) 1,P1 87 83 false (.load none) 86,P2
 88 83 false (.bin .neq) 85 87,PT 89 83 88]).seq (C.cond (.t 89) ((C.ops [MC 2 (i6 11)]).seq C.ret) C.skip)) (((C.ops [O1 22 (.fldA 0) 1,LD 23 22,O1 24 (.call 216 true) 23,O1 25
 (.un UnOp.not) 24,MV 26 25,P1 27 26 false (.fldA 1) 1,P1 28 26 false (.load none) 27,PC 29 26 false (.bin .eql) 28 (.str []),PT 30 26 29,MV 31 30,P1 32 31 false (.fldA 1) 1,
 P1 33 31 false (.load none) 32,P1 34 31 false .slen 33,PC 35 31 false (.bin .gtr) 34 (i6 64),PT 36 31 35]).seq (C.cond (.t 36) ((C.ops [MC 2 (i6 11)]).seq C.ret) C.skip)).seq
 ((C.ops [MC 5 (i6 0)]).seq (C.block 1 (((C.ops [MV 37 5,O1 38 (.fldA 1) 1,LD 39 38,O1 40 .slen 39,BI 41 .lss 37 40]).seq (C.cond (.t 41) C.skip (C.exit 1))).seq ((C.block 2
 ((C.ops [O1 44 (.fldA 1) 1,LD 45 44,MV 46 5,O2 47 .sidx 45 46,O1 48 (.call 258 true) 47,O1 49 (.un UnOp.not) 48]).seq (C.cond (.t 49) ((C.ops [MC 2 (i6 11)]).seq C.ret)
 C.skip))).seq (C.ops [MV 42 5,BC 43 .add 42 (i6 1),MV 5 43]))).loop)))))))).seq (((C.ops [O1 90 (.fldA 2) 1,O1 91 (.fldA 1) 90,LD 92 91,BC 93 .lss 92 (i6 0)]).seq (C.cond (.t
 93) ((C.ops [MC 2 (i6 2)]).seq C.ret) C.skip)).seq (((C.ops [O1 94 (.fldA 2) 1,O1 95 (.fldA 0) 94,LD 96 95,O1 97 (.call 259 true) 96,O1 98 (.un UnOp.not) 97,MV 99 98,P1 100
 99 false (.fldA 5) 1,P1 101 99 false (.load none) 100,P1 102 99 false (.call 259 true) 101,P1 103 99 false (.un UnOp.not) 102,PT 104 99 103]).seq (C.cond (.t 104) ((C.ops [MC 2
 (i6 14)]).seq C.ret) C.skip)).seq ((C.ops [MC 2 (i6 0)]).seq
 C.ret))))))))
theorem zM:qG Tryz.prog 211 105 1 [RV.tmp 2] jA:=fi Tryz.f211 [1] qO []
def qv7:C:=
 ((C.ops [O1 2 (.box 0 124) 0,MC 4 (.bool false)]).seq ((C.ops [O1 5 (.fldA 4) 2,LD 6 5,MV 7 1,BI 8 .quo 6 7,BC 9 .rem 8 (i6 2),BC 10 .eql 9 (i6 1),MV 4 10]).seq
 C.ret))
theorem qxG:qG Tryz.prog 255 11 1 [RV.tmp 4] qv7:=fi Tryz.f255 [2] qO []
def qv8:C:=
 ((C.ops [MC 2 (.bool false)]).seq (((C.ops [MC 3 (i6 1)]).seq (C.block 0 (((C.ops [MV 4 3,BC 5 .leq 4 (i6 64)]).seq (C.cond (.t 5) C.skip (C.exit 0))).seq ((C.block 1 ((C.ops [MV
 8 0,MV 9 3,O1 10 (.call 86 true) 9,ON 11 (.bin .add) [.c (.str [91]),.t 10],BC 12 .add 11 (.str [93]),BI 13 .eql 8 12]).seq (C.cond (.t 13) ((C.ops [MC 2 (.bool true)]).seq
 C.ret) C.skip))).seq (C.ops [MV 6 3,BC 7 .add 6 (i6 1),MV 3 7]))).loop)).seq ((C.ops [MC 2 (.bool false)]).seq
 C.ret)))
theorem qxH:qG Tryz.prog 256 14 0 [RV.tmp 2] qv8:=fi Tryz.f256 [] qO []
def qj8:C:=
 ((C.ops [MC 2 (.bool false)]).seq ((C.ops [MV 4 0,O1 5 (.call 257 true) 4,MV 3 5]).seq ((C.ops [MV 6 3,BC 7 .eql 6 (i6 1),MV 8 7,MG 9 8 false 3,PC 10 8 false (.bin .eql) 9
 (i6 2),PT 11 8 10,MV 12 11,MG 13 12 false 3,PC 14 12 false (.bin .eql) 13 (i6 3),PT 15 12 14,MV 16 15,MG 17 16 false 3,PC 18 16 false (.bin .eql) 17 (i6 4),PT 19 16 18,MV
 2 19]).seq
 C.ret)))
theorem qgJ:qG Tryz.prog 258 20 0 [RV.tmp 2] qj8:=fi Tryz.f258 [] qO []
def qsa:C:=
 ((C.ops [MC 2 (.bool false)]).seq ((C.ops [MV 3 0,BC 4 .eql 3 (.str []),MV 5 4,MG 6 5 false 0,P1 7 5 false (.call 166 true) 6,PT 8 5 7,MV 2 8]).seq
 C.ret))
theorem qqZ:qG Tryz.prog 259 9 0 [RV.tmp 2] qsa:=fi Tryz.f259 [] qO []
end
section
open Go Go.Proofs AF HY LN
namespace RC
abbrev Str:=List UInt8
def ql(L:List Int):AV:= .sl L.length fun i=> [.int .i64 (L.getD i 0)]
def qfe(s:Str):Bool:=decide (1≤s.length)&&decide (s.drop (s.length-1)= [42])
def qeW(s:Str):Bool:=if qfe s=true then jk (s.take (s.length-1))&&decide (s.length≤16) else jk s
theorem qtO:((1:Nat):Int)=1:=rfl
theorem qrd(s:Str)(h:List AObj)(hs:s.length≤1000000000):ACalls Tryz.prog 304 [.str s,.str [42]] h (.bool (qfe s)) h:=by
 unfold qfe
 by_cases g:1≤s.length
 ·have k1:((1:Int)≤s.length)=True:=eq_true (by omega);have k2:((s.length:Int)-1).toNat=s.length-1:=by omega
  have k3:(0≤(s.length:Int)-1)=True:=eq_true (by omega);have k4:((s.length:Int)-1≤s.length)=True:=eq_true (by omega);have k5:List.take (s.length-(s.length-1)) (List.drop (s.length-1) s)=s.drop (s.length-1):=List.take_of_length_le (by simp);rw[decide_eq_true g];refine acO qq6 ?_;simp (disch:=omega) only[qsi,qtO,k1,k2,k3,k4,k5,go_sem]
  repeat' first
   |(apply qf;exact rvk;simp only[go_sem];exact qj)
   |with_reducible apply aiA
  all_goals try exact clz
 ·have k1:((1:Int)≤s.length)=False:=eq_false (by omega);rw[decide_eq_false g];refine acO qq6 ?_;simp (disch:=omega) only[qsi,qtO,k1,go_sem]
  repeat' first
   |(apply qf;exact rvk;simp only[go_sem];exact qj)
theorem qsK(s:Str)(h:List AObj)(hs:s.length≤1000000000):ACalls Tryz.prog 284 [.str s,.str [42]] h (.tup [.str (if qfe s=true then s.take (s.length-1) else s),.bool (qfe s)]) h:=by
 have c1:=fun h=>qrd s h hs
 cases g:qfe s with
 |true=>
  rw[g]at c1;have g1:1≤s.length:=by unfold qfe at g;simp at g;omega
  have k2:((s.length:Int)-1).toNat=s.length-1:=by omega
  have k3:(0≤(s.length:Int)-1)=True:=eq_true (by omega);have k4:((s.length:Int)-1≤s.length)=True:=eq_true (by omega);refine acO qq3 ?_;simp (disch:=omega) only[qsf,go_sem]
  repeat' first
   |(refine cA (c1 _) ?_ ?_;exact flk;simp (disch:=omega) only[qtO,k2,k3,k4,Nat.sub_zero,go_sem])
   |(apply qf;exact rvk;simp only[go_sem];exact qj)
   |with_reducible apply aiA
  all_goals try exact clz
 |false=>
  rw[g]at c1;refine acO qq3 ?_;simp (disch:=omega) only[qsf,go_sem]
  repeat' first
   |(refine cA (c1 _) ?_ ?_;exact flk;simp (disch:=omega) only[go_sem])
   |(apply qf;exact rvk;simp only[go_sem];exact qj)
theorem qqD(s:Str)(h:List AObj)(hs:s.length≤1000000000):ACalls Tryz.prog 241 [.str s,.str [42]] h (.tup [.str (if qfe s=true then s.take (s.length-1) else s),.bool (qfe s)]) h:=by
 have c1:=fun h=>qsK s h hs
 refine acO qxy ?_;simp (disch:=omega) only[qv1,go_sem]
 repeat' first
  |(refine cA (c1 _) ?_ ?_;exact flk;simp (disch:=omega) only[go_sem])
  |(apply qf;exact rvk;simp only[go_sem];exact qj)
  |with_reducible apply aiA
 all_goals try exact clz
theorem qBi(s:Str)(h:List AObj)(hs:s.length≤1000000000):ACalls Tryz.prog 185 [.str s] h (.bool (qeW s)) h:=by
 have c1:=fun h=>qqD s h hs
 unfold qeW;cases g:qfe s with
 |true=>
  rw[g]at c1;simp only[if_true]at c1;have c2:=fun h=>t44 (s.take (s.length-1)) h (by simp;omega)
  rw[if_pos rfl];cases g2:jk (s.take (s.length-1))with
  |true=>
   rw[g2]at c2;have k7:decide ((s.length:Int)≤16)=decide (s.length≤16):=decide_eq_decide.2 (by omega);refine acO qgE ?_;simp (disch:=omega) only[qj3,go_sem]
   repeat' first
    |((first|refine cA (c1 _) ?_ ?_|refine cA (c2 _) ?_ ?_);exact flk;simp (disch:=omega) only[k7,go_sem])
    |(apply qf;exact rvk;simp only[go_sem];exact qj)
    |with_reducible apply aiA
   all_goals try exact clz
  |false=>
   rw[g2]at c2;refine acO qgE ?_;simp (disch:=omega) only[qj3,go_sem]
   repeat' first
    |((first|refine cA (c1 _) ?_ ?_|refine cA (c2 _) ?_ ?_);exact flk;simp (disch:=omega) only[go_sem])
    |(apply qf;exact rvk;simp only[go_sem];exact qj)
    |with_reducible apply aiA
   all_goals try exact clz
 |false=>
  rw[g]at c1;rw[if_neg (by simp)]at c1 ⊢;have c2:=fun h=>t44 s h hs
  cases g2:jk s with
  |true=>
   rw[g2]at c2;refine acO qgE ?_;simp (disch:=omega) only[qj3,go_sem]
   repeat' first
    |((first|refine cA (c1 _) ?_ ?_|refine cA (c2 _) ?_ ?_);exact flk;simp (disch:=omega) only[go_sem])
    |(apply qf;exact rvk;simp only[go_sem];exact qj)
    |with_reducible apply aiA
   all_goals try exact clz
  |false=>
   rw[g2]at c2;refine acO qgE ?_;simp (disch:=omega) only[qj3,go_sem]
   repeat' first
    |((first|refine cA (c1 _) ?_ ?_|refine cA (c2 _) ?_ ?_);exact flk;simp (disch:=omega) only[go_sem])
    |(apply qf;exact rvk;simp only[go_sem];exact qj)
    |with_reducible apply aiA
   all_goals try exact clz
theorem qhe(s:Str)(h:1≤s.length):qfe s=decide (((s[s.length-1]?).getD 0).toNat=42):=by
 unfold qfe;rw[decide_eq_true h,Bool.true_and];have e:s.drop (s.length-1)= [(s[s.length-1]?).getD 0]:=by
  rw[List.drop_eq_getElem_cons (show s.length-1<s.length by omega),zA (show s.length-1<s.length by omega),List.drop_eq_nil_of_le (by omega)];rfl
 rw[e];congr 1;simp only[List.cons.injEq,and_true,eq_iff_iff];exact⟨fun h=>by rw[h];rfl,fun h=>UInt8.toNat_inj.1 (by rw[h];rfl)⟩
theorem qBj(s:Str)(h:List AObj)(hs:s.length≤1000000000):ACalls Tryz.prog 164 [.str s] h (.bool (qeW s)) h:=by
 unfold qeW;have c1:=fun h=>t53 s h hs
 by_cases g:1≤s.length
 ·rw[qhe s g];have k0:((0:Int)<s.length)=True:=eq_true (by omega);have k2:((s.length:Int)-1).toNat=s.length-1:=by omega
  have k3:(0≤(s.length:Int)-1)=True:=eq_true (by omega);have k4:((s.length:Int)-1≤s.length)=True:=eq_true (by omega);have k5:((s.length:Int)-1<s.length)=True:=eq_true (by omega);obtain⟨b,hb⟩: ∃b,b=(s[s.length-1]?).getD 0:=⟨_,rfl⟩
  have eb:=hb.symm;rw[eb];have c2:=fun h=>t53 (s.take (s.length-1)) h (by simp;omega)
  by_cases g2:b.toNat=42
  ·have k6:((b.toNat:Int)=42)=True:=eq_true (by omega);rw[if_pos (by simpa using g2)]
   by_cases g3:s.length≤16
   ·have k7:((s.length:Int)≤16)=True:=eq_true (by omega);rw[decide_eq_true g3];refine acO qgD ?_;simp (disch:=omega) only[qj2,k0,k2,k3,k4,k5,eb,k6,k7,go_sem]
    repeat' first
     |(refine cG (fun e=>c2 _) ?_ ?_;exact flk;simp (disch:=omega) only[go_sem])
     |(apply qf;exact rvk;simp only[go_sem];exact qj)
     |with_reducible apply aiA
    all_goals try exact clz
   ·have k7:((s.length:Int)≤16)=False:=eq_false (by omega);rw[decide_eq_false g3];refine acO qgD ?_;simp (disch:=omega) only[qj2,k0,k2,k3,k4,k5,eb,k6,k7,go_sem]
    repeat' first
     |(refine qk ( .bool false) ?_;simp (disch:=omega) only[go_sem])
     |(apply qf;exact rvk;simp only[go_sem];exact qj)
  ·have k6:((b.toNat:Int)=42)=False:=eq_false (by omega);rw[if_neg (by simpa using g2)];refine acO qgD ?_;simp (disch:=omega) only[qj2,k0,k2,k3,k4,k5,eb,k6,go_sem]
   repeat' first
    |(refine cA (c1 _) ?_ ?_;exact flk;simp (disch:=omega) only[go_sem])
    |(apply qf;exact rvk;simp only[go_sem];exact qj)
 ·have e:s= []:=List.eq_nil_of_length_eq_zero (by omega);subst e;rw[if_neg (by decide)];refine acO qgD ?_;simp (disch:=omega) only[qj2,go_sem]
  repeat' first
   |((first|refine cA (c1 _) ?_ ?_|refine cG (fun e=>c1 _) ?_ ?_);exact flk;simp (disch:=omega) only[go_sem])
   |(apply qf;exact rvk;simp only[go_sem];exact qj)
   |with_reducible first|intro _|apply aiA
  all_goals try exact clz
def qa5(f:Nat→Int):Nat→Nat→Int
 |_,0=>0
 |i,k+1=>if f i≠0 then f i else qa5 f (i+1) k
theorem qet{f:Nat→Int}{n i:Nat}(hi:i≤n)(h: ∀j,j<i→f j=0):qa5 f 0 n=qa5 f i (n-i):=by
 induction i with
 |zero=>rfl
 |succ i ih=>
  rw[ih (by omega) (fun j hj=>h j (by omega)),show n-i=(n-(i+1))+1 by omega];simp only[qa5,h i (by omega),ne_eq,not_true_eq_false,if_false]
theorem zr{f:Nat→Int}{n i:Nat}(hi:i<n)(h: ∀j,j<i→f j=0)(hp:f i≠0):qa5 f 0 n=f i:=by
 rw[qet (by omega) h,show n-i=(n-i-1)+1 by omega];simp only[qa5];rw[if_pos hp]
theorem qP{f:Nat→Int}{n:Nat}(h: ∀j,j<n→f j=0):qa5 f 0 n=0:=by
 rw[qet (Nat.le_refl n) h,Nat.sub_self];rfl
theorem kp{f:Nat→Int}{n:Nat}:qa5 f 0 n=0↔ ∀j,j<n→f j=0:=by
 refine⟨fun h=> ?_,qP⟩;intro j
 induction j using Nat.strongRecOn with
 |_ j ih=>
  intro hj
  by_cases e:f j=0
  ·exact e
  ·rw[zr hj (fun k hk=>ih k hk (by omega)) e]at h;exact absurd h e
def qcV(b:Int)(l:List Int)(i:Nat):Int:=if l.getD i 0<0∨b≤l.getD i 0 then 2 else if 0<i∧l.getD i 0≤l.getD (i-1) 0 then 10 else 0
def qcW(b:Int)(l:List Int):Int:=qa5 (qcV b l) 0 l.length
theorem qCl(l:List Int)(b:Int)(h:List AObj)(hl:l.length≤1000000000):ACalls Tryz.prog 189 [ql l,.int .i64 b] h (.int .i64 (qcW b l)) h:=by
 obtain⟨R,hR⟩: ∃R,R=qcW b l:=⟨_,rfl⟩
 rw[←hR];unfold qcW at hR;refine acO qxh ?_;simp (disch:=omega) only[qvL,ql,go_sem];refine qm (T:=fun i:Nat=>qI 33 [(0,ql l),(1,.int .i64 b),(7,ql l),(8,.int .i64 l.length),(9,.int .i64 i)]) (H:=fun _=>h) (inv:=fun i=>i≤l.length∧ ∀j,j<i→qcV b l j=0) (m:=fun i=>l.length-i) 0 ⟨Nat.zero_le _,fun j hj=>by omega⟩ (Wk.temps ?_) ?_
 ·(simp only[ql,go_sem,qh,qd,qa,qg];try (repeat' first|(with_reducible apply aiA)|(apply qi;omega)|(apply qe;rfl)|exact qj))
 rintro i ⟨i1,i2⟩ K hK
 by_cases hi:i<l.length
 ·have k1:((i:Int)<l.length)=True:=eq_true (by omega);have hE:=zr (n:=l.length) hi i2;rw[←hR]at hE;unfold qcV at hE;have hs:qcV b l i=if l.getD i 0<0∨b≤l.getD i 0 then 2 else if 0<i∧l.getD i 0≤l.getD (i-1) 0 then 10 else 0:=rfl
  obtain⟨v,hv⟩: ∃v,v=l.getD i 0:=⟨_,rfl⟩
  obtain⟨u,hu⟩: ∃u,u=l.getD (i-1) 0:=⟨_,rfl⟩
  have ev:=hv.symm;have eu:=hu.symm;rw[ev,eu]at hE hs
  by_cases g1:v<0
  ·have q1:(v<0)=True:=eq_true g1;have hV:R=2:=by rw[hE]<;>rw[if_pos (.inl g1)];decide
   rw[hV];simp (disch:=omega) only[ql,k1,ev,q1,go_sem]
   repeat' first
    |(apply qf;exact rvk;simp only[go_sem];exact qj)
    |with_reducible apply aiA
   all_goals try exact clz
  have q1:(v<0)=False:=eq_false g1
  by_cases g2:b≤v
  ·have q2:(b≤v)=True:=eq_true g2;have hV:R=2:=by rw[hE]<;>rw[if_pos (.inr g2)];decide
   rw[hV];simp (disch:=omega) only[ql,k1,ev,q1,q2,go_sem]
   repeat' first
    |(apply qf;exact rvk;simp only[go_sem];exact qj)
    |with_reducible apply aiA
   all_goals try exact clz
  have q2:(b≤v)=False:=eq_false g2;rw[if_neg (by rintro (h|h)<;>contradiction)]at hE hs
  by_cases g3:0<i
  ·have q3:((0:Int)<i)=True:=eq_true (by omega);have q4:((i:Int)-1).toNat=i-1:=by omega
   have q5:(0≤(i:Int)-1)=True:=eq_true (by omega);have q6:((i:Int)-1<l.length)=True:=eq_true (by omega)
   by_cases g4:v≤u
   ·have q7:(v≤u)=True:=eq_true g4;have hV:R=10:=by rw[hE]<;>rw[if_pos ⟨g3,g4⟩];decide
    rw[hV];simp (disch:=omega) only[ql,k1,ev,eu,q1,q2,q3,q4,q5,q6,q7,go_sem]
    repeat' first
     |(apply qf;exact rvk;simp only[go_sem];exact qj)
     |with_reducible apply aiA
    all_goals try exact clz
   ·have q7:(v≤u)=False:=eq_false g4;rw[if_neg (fun hc=>g4 hc.2)]at hs;simp (disch:=omega) only[ql,k1,ev,eu,q1,q2,q3,q4,q5,q6,q7,go_sem]
    repeat' first
     |with_reducible apply aiA
    all_goals try exact clz
    refine hK _ _ (i+1) ⟨hi,fun j hj=> ?_⟩ (by omega) (Wk.temps ?_)
    ·by_cases e:j=i
     ·subst e;exact hs
     ·exact i2 j (by omega)
    ·(simp only[ql,go_sem,qh,qd,qa,qg];try (repeat' first|(with_reducible apply aiA)|(apply qi;omega)|(apply qe;rfl)|exact qj))
  ·have q3:((0:Int)<i)=False:=eq_false (by omega);rw[if_neg (fun hc=>g3 hc.1)]at hs;simp (disch:=omega) only[ql,k1,ev,q1,q2,q3,go_sem]
   repeat' first
    |(apply qf;exact rvk;simp only[go_sem];apply qi)
    |with_reducible first|intro _|apply aiA
   all_goals try exact clz
   refine hK _ _ (i+1) ⟨hi,fun j hj=> ?_⟩ (by omega) (Wk.temps ?_)
   ·by_cases e:j=i
    ·subst e;exact hs
    ·exact i2 j (by omega)
   ·(simp only[ql,go_sem,qh,qd,qa,qg];try (repeat' first|(with_reducible apply aiA)|(apply qi;omega)|(apply qe;rfl)|exact qj))
 ·have k1:((i:Int)<l.length)=False:=eq_false (by omega);have hV:R=0:=by rw[hR,qP (fun j hj=>i2 j (by omega))]
  rw[hV];simp (disch:=omega) only[ql,k1,go_sem]
  repeat' first
   |(apply qf;exact rvk;simp only[go_sem];exact qj)
theorem qCm(l:List Int)(b:Int)(h:List AObj)(hl:l.length≤1000000000):ACalls Tryz.prog 168 [.int .i64 b,ql l] h (.int .i64 (qcW b l)) h:=by
 obtain⟨R,hR⟩: ∃R,R=qcW b l:=⟨_,rfl⟩
 rw[←hR];unfold qcW at hR;refine acO qxa ?_;simp (disch:=omega) only[qvF,ql,go_sem];refine qm (T:=fun i:Nat=>qI 39 [(0,.int .i64 b),(1,ql l),(5,.int .i64 i)]) (H:=fun _=>h) (inv:=fun i=>i≤l.length∧ ∀j,j<i→qcV b l j=0) (m:=fun i=>l.length-i) 0 ⟨Nat.zero_le _,fun j hj=>by omega⟩ (Wk.temps ?_) ?_
 ·(simp only[ql,go_sem,qh,qd,qa,qg];try (repeat' first|(with_reducible apply aiA)|(apply qi;omega)|(apply qe;rfl)|exact qj))
 rintro i ⟨i1,i2⟩ K hK
 by_cases hi:i<l.length
 ·have k1:((i:Int)<l.length)=True:=eq_true (by omega);have hE:=zr (n:=l.length) hi i2;rw[←hR]at hE;unfold qcV at hE;have hs:qcV b l i=if l.getD i 0<0∨b≤l.getD i 0 then 2 else if 0<i∧l.getD i 0≤l.getD (i-1) 0 then 10 else 0:=rfl
  obtain⟨v,hv⟩: ∃v,v=l.getD i 0:=⟨_,rfl⟩
  obtain⟨u,hu⟩: ∃u,u=l.getD (i-1) 0:=⟨_,rfl⟩
  have ev:=hv.symm;have eu:=hu.symm;rw[ev,eu]at hE hs
  by_cases g1:v<0
  ·have q1:(v<0)=True:=eq_true g1;have hV:R=2:=by rw[hE]<;>rw[if_pos (.inl g1)];decide
   rw[hV];simp (disch:=omega) only[ql,k1,ev,q1,go_sem]
   repeat' first
    |(apply qf;exact rvk;simp only[go_sem];exact qj)
    |with_reducible apply aiA
   all_goals try exact clz
  have q1:(v<0)=False:=eq_false g1
  by_cases g2:b≤v
  ·have q2:(b≤v)=True:=eq_true g2;have hV:R=2:=by rw[hE]<;>rw[if_pos (.inr g2)];decide
   rw[hV];simp (disch:=omega) only[ql,k1,ev,q1,q2,go_sem]
   repeat' first
    |(apply qf;exact rvk;simp only[go_sem];exact qj)
    |with_reducible apply aiA
   all_goals try exact clz
  have q2:(b≤v)=False:=eq_false g2;rw[if_neg (by rintro (h|h)<;>contradiction)]at hE hs
  by_cases g3:0<i
  ·have q3:((0:Int)<i)=True:=eq_true (by omega);have q4:((i:Int)-1).toNat=i-1:=by omega
   have q5:(0≤(i:Int)-1)=True:=eq_true (by omega);have q6:((i:Int)-1<l.length)=True:=eq_true (by omega)
   by_cases g4:v≤u
   ·have q7:(v≤u)=True:=eq_true g4;have hV:R=10:=by rw[hE]<;>rw[if_pos ⟨g3,g4⟩];decide
    rw[hV];simp (disch:=omega) only[ql,k1,ev,eu,q1,q2,q3,q4,q5,q6,q7,go_sem]
    repeat' first
     |(apply qf;exact rvk;simp only[go_sem];exact qj)
     |with_reducible apply aiA
    all_goals try exact clz
   ·have q7:(v≤u)=False:=eq_false g4;rw[if_neg (fun hc=>g4 hc.2)]at hs;simp (disch:=omega) only[ql,k1,ev,eu,q1,q2,q3,q4,q5,q6,q7,go_sem]
    repeat' first
     |with_reducible apply aiA
    all_goals try exact clz
    refine hK _ _ (i+1) ⟨hi,fun j hj=> ?_⟩ (by omega) (Wk.temps ?_)
    ·by_cases e:j=i
     ·subst e;exact hs
     ·exact i2 j (by omega)
    ·(simp only[ql,go_sem,qh,qd,qa,qg];try (repeat' first|(with_reducible apply aiA)|(apply qi;omega)|(apply qe;rfl)|exact qj))
  ·have q3:((0:Int)<i)=False:=eq_false (by omega);rw[if_neg (fun hc=>g3 hc.1)]at hs;simp (disch:=omega) only[ql,k1,ev,q1,q2,q3,go_sem]
   repeat' first
    |(apply qf;exact rvk;simp only[go_sem];apply qi)
    |with_reducible first|intro _|apply aiA
   all_goals try exact clz
   refine hK _ _ (i+1) ⟨hi,fun j hj=> ?_⟩ (by omega) (Wk.temps ?_)
   ·by_cases e:j=i
    ·subst e;exact hs
    ·exact i2 j (by omega)
   ·(simp only[ql,go_sem,qh,qd,qa,qg];try (repeat' first|(with_reducible apply aiA)|(apply qi;omega)|(apply qe;rfl)|exact qj))
 ·have k1:((i:Int)<l.length)=False:=eq_false (by omega);have hV:R=0:=by rw[hR,qP (fun j hj=>i2 j (by omega))]
  rw[hV];simp (disch:=omega) only[ql,k1,go_sem]
  repeat' first
   |(apply qf;exact rvk;simp only[go_sem];exact qj)
structure Gr where
 name:Str
 mem:List Int
 deriving Inhabited
def grC(g:Gr):List AV:= [.str g.name,ql g.mem]
def qF(gs:List Gr):AV:= .sl gs.length fun i=>grC (gs.getD i default)
def zO(names:List Str)(i:Nat):Int:=if qeW (names.getD i [])=false then 14 else if qY (fun j=>decide (names.getD i []=names.getD j [])) i=true then 7 else 0
def qdC(names:List Str)(gs:List Gr)(i:Nat):Int:=
 if jk (gs.getD i default).name=false then 14 else if qY (fun j=>decide ((gs.getD i default).name=names.getD j [])) names.length=true then 7 else
  if qY (fun j=>decide ((gs.getD i default).name=(gs.getD j default).name)) i=true then 7 else if (gs.getD i default).mem.length=0 then 5 else qcW names.length (gs.getD i default).mem
def sgE(names:List Str)(gs:List Gr):Int:=
 if 32<names.length then 4 else if qa5 (zO names) 0 names.length≠0 then qa5 (zO names) 0 names.length else if 16<gs.length then 4 else qa5 (qdC names gs) 0 gs.length
theorem qAZ(n:Nat)(g:Nat→Str)(x:Str)(h:List AObj)(hn:n≤1000000000):ACalls Tryz.prog 117 [.sl n (fun j=> [.str (g j)]),.str x] h (.int .i64 (qag (fun j=>decide (x=g j)) n 0)) h:=by
 have:=qAW qwV n (fun j=> .s (g j)) (.s x) h (fun _ _=>rfl) (by omega)
 simpa only[At.v,At.s.injEq] using this
theorem qof(n:Nat)(g:Nat→Str)(x:Str)(h:List AObj)(hn:n≤1000000000):ACalls Tryz.prog 43 [.sl n (fun j=> [.str (g j)]),.str x] h (.bool (qY (fun j=>decide (x=g j)) n)) h:=
 qnC qAA ⟨rfl,rfl⟩ ⟨rfl,rfl⟩ (qAZ n g x h hn)
theorem qt9(n:Nat)(g:Nat→Str)(x:Str)(h:List AObj)(hn:n≤1000000000):ACalls Tryz.prog 165 [.sl n (fun j=> [.str (g j)]),.str x] h (.int .i64 (qag (fun j=>decide (x=g j)) n 0)) h:=by
 obtain⟨p,hp⟩: ∃p:Nat→Bool,p=fun j=>decide (x=g j):=⟨_,rfl⟩
 have ep: ∀j,p j=decide (x=g j):=fun j=>by rw[hp]
 rw[←hp];refine acO qw8 ?_;simp (disch:=omega) only[qvD,go_sem];refine qm (T:=fun i:Nat=>qI 19 [(0,.sl n (fun j=> [.str (g j)])),(1,.str x),(5,.int .i64 i)]) (H:=fun _=>h) (inv:=fun i=>i≤n∧ ∀j,j<i→p j=false) (m:=fun i=>n-i) 0 ⟨Nat.zero_le _,fun j hj=>by omega⟩ (Wk.temps ?_) ?_
 ·exact tmq
 rintro i ⟨i1,i2⟩ K hK
 by_cases hi:i<n
 ·have k1:((i:Int)<n)=True:=eq_true (by omega)
  by_cases g0:x=g i
  ·have k2:(g i=x)=True:=eq_true g0.symm;rw[jv hi i2 (by rw[ep,decide_eq_true g0])];simp (disch:=omega) only[k1,k2,go_sem]
   repeat' first
    |(apply qf;exact rvk;simp only[go_sem];exact qj)
    |with_reducible apply aiA
   all_goals try exact clz
  ·have k2:(g i=x)=False:=eq_false (fun e=>g0 e.symm);simp (disch:=omega) only[k1,k2,go_sem]
   repeat' first
    |with_reducible apply aiA
   all_goals try exact clz
   refine hK _ _ (i+1) ⟨hi,fun j hj=> ?_⟩ (by omega) (Wk.temps ?_)
   ·by_cases e:j=i
    ·subst e;rw[ep,decide_eq_false g0]
    ·exact i2 j (by omega)
   ·exact tmq
 ·have k1:((i:Int)<n)=False:=eq_false (by omega);rw[jV (p:=p) (n:=n) (fun j hj=>i2 j (by omega))];simp (disch:=omega) only[k1,go_sem]
  repeat' first
   |(apply qf;exact rvk;simp only[go_sem];exact qj)
theorem qCG(x:Gr)(y:Str)(c:AV)(h:List AObj):ACalls Tryz.prog 188 [.agg (grC x),.ip [.str y,c]] h (.bool (decide (y=x.name))) h:=by
 have k:decide (x.name=y)=decide (y=x.name):=decide_eq_decide.2 ⟨Eq.symm,Eq.symm⟩;refine acO qxg ?_;simp (disch:=omega) only[qvK,grC,go_sem]
 repeat' first
  |(apply qb;exact rvk;simp only[go_sem];apply qe)
 all_goals try exact clz
end RC
end
section
namespace AF
open Go
theorem Wk.kill{t:List AV}{h:List AObj}{k v:Nat}{ty:TypeId}{cs:List AV}(hk:qH k h=some (.mem v ty cs)):Wk t h t (zg k h (.emp (v+1))):=by
 intro N w σ a H;have hkl:k<σ.length:=by rw[H.hr.len];exact kX hk
 have ho:=zA hkl;obtain⟨m1,_⟩:=H.hr.obj k _ _ hk ho;obtain⟨g1,g2⟩:=H.hr.kill ho;rw[m1]at g1 g2;exact⟨_,⟨g1,H.sz,fun i c x hc hx=>(H.tm i c x hc hx).ext g2,qaP g2 H.df⟩,g2⟩
theorem Wk.kill0{t:List AV}{h l:List AObj}{v:Nat}{ty:TypeId}{cs:List AV}:Wk t (h++ .mem v ty cs::l) t (h++ .emp (v+1)::l):=by
 have:=Wk.kill (t:=t) (h:=h++ .mem v ty cs::l) (k:=h.length) (v:=v) (ty:=ty) (cs:=cs) (by rw[getO_app0];rfl)
 rwa [setO_app0]at this
end AF
end
section
open Go Go.Proofs AF HY LN
namespace RC
theorem qCB(n:Nat)(gs:List Gr)(y:Str)(k v:Nat)(c:AV)(h:List AObj)(hk:qH k h=some (.mem v 167 [.str y,c]))(hn:n≤gs.length)(hl:gs.length≤1000000000):
  ACalls Tryz.prog 187 [.sl n (fun j=>grC (gs.getD j default)),.fn (.func 188) [] [.op k v 0]] h (.bool (qY (fun j=>decide (y=(gs.getD j default).name)) n)) h:=by
 have hc:=zj hk;refine qnC qxf ⟨rfl,rfl⟩ ⟨rfl,rfl⟩ (qb3 qwX n (fun j=>grC (gs.getD j default)) (fun j=> .agg (grC (gs.getD j default))) _ [] [.op k v 0] _ h (fun i _=>⟨rfl,by simp[jn,grC],rfl,rfl,rfl⟩) (fun i _=> ?_) (by omega));refine ACalls.borrow ?_ rfl;have e:([AV.agg (grC (gs.getD i default))]++ [AV.op k v 0]).map (rei (fun _=>true) h 8)= [.agg (grC (gs.getD i default)),.ip [rei (fun _=>true) h 7 (.str y),rei (fun _=>true) h 7 c]]:=by
  simp only[List.cons_append,List.nil_append,List.map_cons,List.map_nil,rei_op,if_true,hc,ipOf_some,List.drop_zero,rei_agg];rfl
 rw[List.nil_append,e];exact qCG _ y _ _
theorem qho{p q:Nat→Bool}{n:Nat}(h: ∀i,i<n→p i=q i):qY p n=qY q n:=by
 cases e:qY q n with
 |true=>obtain⟨i,h1,h2⟩:=qv.1 e;exact qv.2 ⟨i,h1,by rw[h i h1,h2]⟩
 |false=>exact qn.2 fun i hi=>by rw[h i hi];exact qn.1 e i hi
structure Szs (names:List Str) (gs:List Gr):Prop where
 n:names.length≤1000000000
 g:gs.length≤1000000000
 ns: ∀i,(names.getD i []).length≤1000000000
 gn: ∀i,(gs.getD i default).name.length≤1000000000
 gm: ∀i,(gs.getD i default).mem.length≤1000000000
set_option maxHeartbeats 4000000 in
theorem sgP(names:List Str)(gs:List Gr)(h:List AObj)(hz:Szs names gs):ACalls Tryz.prog 122 [strs names,qF gs] h (.int .i64 (sgE names gs)) h:=by
 obtain⟨z1,z2,z3,z4,z5⟩:=hz;obtain⟨R,hR⟩: ∃R,R=sgE names gs:=⟨_,rfl⟩
 rw[←hR];unfold sgE at hR
 by_cases g0:32<names.length
 ·have k0:((32:Int)<names.length)=True:=eq_true (by omega);rw[if_pos g0]at hR;rw[hR];refine acO qqL ?_;simp (disch:=omega) only[qrY,strs,qF,k0,go_sem]
  repeat' first
   |(apply qb;exact rvk;simp only[go_sem];exact qj)
 have k0:((32:Int)<names.length)=False:=eq_false (by omega);rw[if_neg g0]at hR;refine acO qqL ?_;simp (disch:=omega) only[qrY,strs,qF,k0,go_sem];refine qm (T:=fun i:Nat=>qI 70 [(0,strs names),(1,qF gs),(13,strs names),(14,.int .i64 names.length),(15,.int .i64 i)]) (H:=fun _=>h++ [.emp 0]) (inv:=fun i=>i≤names.length∧ ∀j,j<i→zO names j=0) (m:=fun i=>names.length-i) 0 ⟨Nat.zero_le _,fun j hj=>by omega⟩ (Wk.temps ?_) ?_
 ·(simp only[strs,qF,go_sem,qh,qd,qa,qg];try (repeat' first|(with_reducible apply aiA)|(apply qi;omega)|(apply qe;rfl)|exact qj))
 rintro i ⟨i1,i2⟩ K hK
 by_cases hi:i<names.length
 ·have k1:((i:Int)<names.length)=True:=eq_true (by omega);have k2:((i:Int)≤names.length)=True:=eq_true (by omega);have hE:=zr (f:=zO names) hi i2;have hs:zO names i=if qeW (names.getD i [])=false then 14 else if qY (fun j=>decide (names.getD i []=names.getD j [])) i=true then 7 else 0:=rfl
  have c87:=fun h=>qBi (names.getD i []) h (z3 i)
  have c88:=fun h=>qof i (fun j=>names.getD j []) (names.getD i []) h (by omega)
  obtain⟨s,hsx⟩: ∃s,s=names.getD i []:=⟨_,rfl⟩
  have es:=hsx.symm;rw[es]at hs c87;simp only[es]at hs c88;cases g1:qeW s with
  |false=>
   rw[g1]at c87;rw[if_pos g1]at hs;have hV:R=14:=by rw[hR,hE (by rw[hs];decide),hs];rfl
   rw[hV];simp (disch:=omega) only[strs,qF,k1,es,go_sem]
   repeat' first
    |(refine cA (c87 _) ?_ ?_;exact flk;simp (disch:=omega) only[k2,go_sem])
    |(apply qb;exact rvk;simp only[go_sem];exact qj)
    |with_reducible apply aiA
   all_goals try exact clz
  |true=>
  rw[g1]at c87;rw[if_neg (by rw[g1];simp)]at hs;cases g2:qY (fun j=>decide (s=names.getD j [])) i with
  |true=>
   rw[g2]at c88;rw[if_pos g2]at hs;have hV:R=7:=by rw[hR,hE (by rw[hs];decide),hs];rfl
   rw[hV];simp (disch:=omega) only[strs,qF,k1,es,go_sem]
   repeat' first
    |((first|refine cA (c87 _) ?_ ?_|refine cA (c88 _) ?_ ?_);exact flk;simp (disch:=omega) only[k2,Nat.sub_zero,go_sem])
    |(apply qb;exact rvk;simp only[go_sem];exact qj)
    |with_reducible apply aiA
   all_goals try exact clz
  |false=>
   rw[g2]at c88;rw[if_neg (by rw[g2];simp)]at hs;simp (disch:=omega) only[strs,qF,k1,es,go_sem]
   repeat' first
    |((first|refine cA (c87 _) ?_ ?_|refine cA (c88 _) ?_ ?_);exact flk;simp (disch:=omega) only[k2,Nat.sub_zero,go_sem])
    |with_reducible apply aiA
   all_goals try exact clz
   refine hK _ _ (i+1) ⟨hi,fun j hj=> ?_⟩ (by omega) (Wk.temps ?_)
   ·by_cases e:j=i
    ·subst e;exact hs
    ·exact i2 j (by omega)
   ·(simp only[strs,qF,go_sem,qh,qd,qa,qg];try (repeat' first|(with_reducible apply aiA)|(apply qi;omega)|(apply qe;rfl)|exact qj))
 have k1:((i:Int)<names.length)=False:=eq_false (by omega);have hn0:=qP (f:=zO names) (fun j (hj:j<names.length)=>i2 j (by omega));rw[if_neg (fun hc=>hc hn0)]at hR
 by_cases g1:16<gs.length
 ·have k2:((16:Int)<gs.length)=True:=eq_true (by omega);rw[if_pos g1]at hR;rw[hR];simp (disch:=omega) only[strs,qF,k1,k2,go_sem]
  repeat' first
   |(apply qb;exact rvk;simp only[go_sem];exact qj)
 have k2:((16:Int)<gs.length)=False:=eq_false (by omega);rw[if_neg g1]at hR;simp (disch:=omega) only[strs,qF,k1,k2,go_sem];refine qm (T:=fun i:Nat×Nat=>qI 70 [(0,strs names),(1,qF gs),(32,qF gs),(33,.int .i64 gs.length),(34,.int .i64 i.1)]) (H:=fun i=>h++ [.emp i.2]) (inv:=fun i=>i.1≤gs.length∧ ∀j,j<i.1→qdC names gs j=0) (m:=fun i=>gs.length-i.1) (0,0) ⟨Nat.zero_le _,fun j hj=>absurd hj (Nat.not_lt_zero j)⟩ (Wk.temps ?_) ?_
 ·(simp only[strs,qF,go_sem,qh,qd,qa,qg];try (repeat' first|(with_reducible apply aiA)|(apply qi;omega)|(apply qe;rfl)|exact qj))
 rintro⟨i,v⟩ ⟨i1,i2⟩ K hK;simp only at i1 i2 hK
 by_cases hi:i<gs.length
 ·have k3:((i:Int)<gs.length)=True:=eq_true (by omega);have k4:((i:Int)≤gs.length)=True:=eq_true (by omega);have hE:=zr (f:=qdC names gs) hi i2;have hs:qdC names gs i=if jk (gs.getD i default).name=false then 14 else if qY (fun j=>decide ((gs.getD i default).name=names.getD j [])) names.length=true then 7 else
   if qY (fun j=>decide ((gs.getD i default).name=(gs.getD j default).name)) i=true then 7 else if (gs.getD i default).mem.length=0 then 5 else qcW names.length (gs.getD i default).mem:=rfl
  have z4i:=z4 i;have z5i:=z5 i;obtain⟨g,hg⟩: ∃g,g=gs.getD i default:=⟨_,rfl⟩
  have eg:=hg.symm;simp only[eg]at hs z4i z5i;have c89:=fun h=>t44 g.name h z4i
  have c88:=fun h=>qof names.length (fun j=>names.getD j []) g.name h z1
  have c90:=fun h hk=>qCB i gs g.name (List.length h) (v+1) (ql g.mem) (h++ [.mem (v+1) 167 (grC g)]) hk (by omega) z2
  have c90:=c90 h (by rw[getO_app0];rfl);have c92:=fun h=>qCl g.mem names.length h z5i
  cases g2:jk g.name with
  |false=>
   rw[g2]at c89;rw[if_pos g2]at hs;have hV:R=14:=by rw[hR,hE (by rw[hs];decide),hs]
   rw[hV];simp (disch:=omega) only[strs,qF,grC,ql,k3,eg,go_sem]
   repeat' first
    |(refine cA (c89 _) ?_ ?_;exact flk;simp (disch:=omega) only[go_sem])
    |(apply qb;exact rvk;simp only[go_sem];exact qj)
    |with_reducible apply aiA
   all_goals try exact clz
  |true=>
  rw[g2]at c89;rw[if_neg (by rw[g2];simp)]at hs;cases g3:qY (fun j=>decide (g.name=names.getD j [])) names.length with
  |true=>
   rw[g3]at c88;rw[if_pos g3]at hs;have hV:R=7:=by rw[hR,hE (by rw[hs];decide),hs]
   rw[hV];simp (disch:=omega) only[strs,qF,grC,ql,k3,eg,go_sem]
   repeat' first
    |(refine qk ( .bool false) ?_;simp (disch:=omega) only[go_sem])
    |((first|refine cA (c89 _) ?_ ?_|refine cA (c88 _) ?_ ?_);exact flk;simp (disch:=omega) only[k4,go_sem])
    |(apply qb;exact rvk;simp only[go_sem];exact qj)
    |with_reducible apply aiA
   all_goals try exact clz
  |false=>
  rw[g3]at c88;rw[if_neg (by rw[g3];simp)]at hs;cases g4:qY (fun j=>decide (g.name=(gs.getD j default).name)) i with
  |true=>
   rw[g4]at c90;rw[if_pos g4]at hs;have hV:R=7:=by rw[hR,hE (by rw[hs];decide),hs]
   rw[hV];simp only[grC,ql]at c90;simp (disch:=omega) only[strs,qF,grC,ql,k3,eg,go_sem]
   repeat' first
    |((first|refine cA (c89 _) ?_ ?_|refine cA (c88 _) ?_ ?_|refine cG (fun e=>c90) ?_ ?_);exact flk;simp (disch:=omega) only[k4,Nat.sub_zero,go_sem])
    |(apply qb;exact rvk;simp only[go_sem];exact qj)
    |with_reducible apply aiA
   all_goals try exact clz
  |false=>
  rw[g4]at c90;rw[if_neg (by rw[g4];simp)]at hs;simp only[grC,ql]at c90
  by_cases g5:g.mem.length=0
  ·have k5:((g.mem.length:Int)=0)=True:=eq_true (by omega);rw[if_pos g5]at hs;have hV:R=5:=by rw[hR,hE (by rw[hs];decide),hs]
   rw[hV];simp (disch:=omega) only[strs,qF,grC,ql,k3,eg,go_sem]
   repeat' first
    |((first|refine cA (c89 _) ?_ ?_|refine cA (c88 _) ?_ ?_|refine cG (fun e=>c90) ?_ ?_);exact flk;simp (disch:=omega) only[k4,Nat.sub_zero,k5,go_sem])
    |(apply qb;exact rvk;simp only[go_sem];exact qj)
    |with_reducible apply aiA
   all_goals try exact clz
  have k5:((g.mem.length:Int)=0)=False:=eq_false (by omega);rw[if_neg g5]at hs;unfold ql at c92;obtain⟨e,he⟩: ∃e,e=qcW names.length g.mem:=⟨_,rfl⟩
  rw[←he]at c92 hs
  by_cases g6:e=0
  ·have k6:(e=0)=True:=eq_true g6;simp (disch:=omega) only[strs,qF,grC,ql,k3,eg,go_sem]
   repeat' first
    |((first|refine cA (c89 _) ?_ ?_|refine cA (c88 _) ?_ ?_|refine cG (fun e=>c90) ?_ ?_|refine cA (c92 _) ?_ ?_);exact flk;simp (disch:=omega) only[k4,Nat.sub_zero,k5,k6,go_sem])
    |with_reducible apply aiA
   all_goals try exact clz
   refine hK _ _ (i+1,v+1+1) ⟨hi,fun j hj=> ?_⟩ (by simp only;omega) (Wk.trans Wk.kill0 (Wk.temps ?_))
   ·by_cases e':j=i
    ·subst e';rw[hs,g6]
    ·exact i2 j (by simp only at hj;omega)
   ·(simp only[strs,qF,go_sem,qh,qd,qa,qg];try (repeat' first|(with_reducible apply aiA)|(apply qi;omega)|(apply qe;rfl)|exact qj))
  ·have k6:(e=0)=False:=eq_false g6;have hV:R=e:=by rw[hR,hE (by rw[hs];exact g6),hs]
   rw[hV];simp (disch:=omega) only[strs,qF,grC,ql,k3,eg,go_sem]
   repeat' first
    |((first|refine cA (c89 _) ?_ ?_|refine cA (c88 _) ?_ ?_|refine cG (fun e=>c90) ?_ ?_|refine cA (c92 _) ?_ ?_);exact flk;simp (disch:=omega) only[k4,Nat.sub_zero,k5,k6,go_sem])
    |(apply qb;exact rvk;simp only[go_sem];exact qj)
    |with_reducible apply aiA
   all_goals try exact clz
 ·have k3:((i:Int)<gs.length)=False:=eq_false (by omega);rw[qP (fun j (hj:j<gs.length)=>i2 j (by omega))]at hR;rw[hR];simp (disch:=omega) only[strs,qF,k3,go_sem]
  repeat' first
   |(apply qb;exact rvk;simp only[go_sem];exact qj)
theorem _root_.AF.Wk.kill2{t:List AV}{h l:List AObj}{a b:AObj}{v:Nat}{ty:TypeId}{cs:List AV}:Wk t (h++a::b:: .mem v ty cs::l) t (h++a::b:: .emp (v+1)::l):=by
 have:=Wk.kill0 (t:=t) (h:=h++ [a,b]) (l:=l) (v:=v) (ty:=ty) (cs:=cs)
 simpa using this
theorem qbk{n:Int}(h0:0≤n)(h1:n<18446744073709551616):IntKind.u64.wrap n=n:=by
 have e1:(2:Int)^IntKind.bits IntKind.u64=18446744073709551616:=by decide
 have e3:IntKind.signed IntKind.u64=false:=rfl;unfold IntKind.wrap;rw[e1,e3];simp only[Bool.false_and,Bool.false_eq_true,if_false];omega
theorem jC(a:Nat):BitVec.ofInt 64 (a:Int)=BitVec.ofNat 64 a:=by simp
theorem qrm{a b:Nat}(ha:a<2^64)(hb:b<2^64):orK .u64 (a:Int) (b:Int)=((a|||b:Nat):Int):=by
 have hab:a|||b<2^64:=Nat.or_lt_two_pow ha hb;unfold orK;rw[show IntKind.bits IntKind.u64=64 from rfl,jC,jC,BitVec.toNat_or,BitVec.toNat_ofNat,BitVec.toNat_ofNat,Nat.mod_eq_of_lt ha,Nat.mod_eq_of_lt hb];exact qbk (by omega) (by omega)
theorem qrH{a b:Nat}(ha:a<2^64)(hb:b<2^64):qnA .u64 (a:Int) (b:Int)=((a&&&b:Nat):Int):=by
 have hab:a&&&b<2^64:=Nat.lt_of_le_of_lt Nat.and_le_left ha;unfold qnA;rw[show IntKind.bits IntKind.u64=64 from rfl,jC,jC,BitVec.toNat_and,BitVec.toNat_ofNat,BitVec.toNat_ofNat,Nat.mod_eq_of_lt ha,Nat.mod_eq_of_lt hb];exact qbk (by omega) (by omega)
theorem qmv{n:Nat}(hn:n<64):qvc .u64 1 (n:Int)=((2^n:Nat):Int):=by
 unfold qvc;rw[show IntKind.bits IntKind.u64=64 from rfl,Int.toNat_natCast,Nat.min_eq_left (by omega)];have h2:(2:Nat)^n<2^64:=Nat.pow_lt_pow_right (by omega) hn;rw[Int.one_mul,show ((2:Int)^n)=((2^n:Nat):Int) by simp];exact qbk (Int.natCast_nonneg _) (Int.ofNat_lt.2 (show 2^n<18446744073709551616 from h2))
theorem qun{a n:Nat}(hn:n<64):qum .u64 (a:Int) (n:Int)=((a>>>n:Nat):Int):=by
 unfold qum;rw[show IntKind.bits IntKind.u64=64 from rfl,Int.toNat_natCast,Nat.min_eq_left (by omega),Nat.shiftRight_eq_div_pow,show ((2:Int)^n)=((2^n:Nat):Int) by simp,Int.fdiv_eq_ediv_of_nonneg _ (Int.natCast_nonneg _)];rfl
theorem qjT{a n:Nat}(ha:a<2^64)(hn:n<64):qnA .u64 (qum .u64 (a:Int) (n:Int)) 1=if a.testBit n=true then 1 else 0:=by
 rw[qun hn,show (1:Int)=((1:Nat):Int)from rfl,qrH (Nat.lt_of_le_of_lt (by rw[Nat.shiftRight_eq_div_pow];exact Nat.div_le_self _ _) ha) (by decide)]
 have:(a>>>n)&&&1=(a.testBit n).toNat:=by rw[Nat.testBit];simp[Nat.and_comm 1];rcases Nat.mod_two_eq_zero_or_one (a>>>n)with h|h<;>simp[h]
 rw[this];cases a.testBit n<;>rfl
def qam(l:List Int):Nat:=l.foldl (fun a n=>a|||2^n.toNat) 0
def inB(b:Int)(l:List Int):Prop:= ∀i,i<l.length→0≤l.getD i 0∧l.getD i 0<b
theorem qri(l:List Int): ∀a:Nat,a<2^64→(∀n∈l,0≤n∧n<64)→l.foldl (fun a n=>a|||2^n.toNat) a<2^64∧ ∀i,(l.foldl (fun a n=>a|||2^n.toNat) a).testBit i=(a.testBit i||decide ((i:Int)∈l)):=by
 induction l with
 |nil=>intro a ha _;exact⟨ha,fun i=>by simp⟩
 |cons n l ih=>
  intro a ha hl;have hn:=hl n (by simp);obtain⟨h1,h2⟩:=ih (a|||2^n.toNat) (Nat.or_lt_two_pow ha (Nat.pow_lt_pow_right (by omega) (by omega))) (fun m hm=>hl m (by simp[hm]));refine⟨h1,fun i=> ?_⟩;rw[List.foldl_cons,h2 i,Nat.testBit_or,Nat.testBit_two_pow]
  by_cases e:(i:Int)=n
  ·have e':n.toNat=i:=by omega
   simp[e,e']
  ·have e': ¬n.toNat=i:=by omega
   simp[e,e']
theorem qaa{l:List Int}{b:Int}(h:inB b l): ∀n∈l,0≤n∧n<b:=by
 intro n hn;obtain⟨i,hi,e⟩:=List.getElem_of_mem hn
 have:=h i hi
 rw[gdqA,zA hi]at this;rw[←e];exact this
theorem qdf{l:List Int}(h:inB 64 l):qam l<2^64:=(qri l 0 (by decide) (qaa h)).1
theorem qab{l:List Int}(h:inB 64 l)(i:Nat):(qam l).testBit i=decide ((i:Int)∈l):=by
 have:=(qri l 0 (by decide) (qaa h)).2 i
 rw[Nat.zero_testBit,Bool.false_or]at this;exact this
theorem qoV{l:List Int}{b:Int}{i:Nat}(h:inB b l)(hi:i≤l.length):inB b (l.take i):=by
 intro j hj;rw[List.length_take]at hj
 have:=h j (by omega)
 rw[gdqA,List.getElem?_take,if_pos (by omega),←gdqA];exact this
theorem qo4{l:List Int}{i:Nat}(hi:i<l.length):qam (l.take (i+1))=qam (l.take i)|||2^(l.getD i 0).toNat:=by
 unfold qam;rw[List.take_add_one,zA hi,List.foldl_append,gdqA,zA hi];rfl
theorem qA6(l:List Int)(h:List AObj)(hl:l.length≤1000000000)(hb:inB 64 l):ACalls Tryz.prog 125 [ql l] h (.int .u64 (qam l:Int)) h:=by
 refine acO qwY ?_;simp (disch:=omega) only[qvu,ql,go_sem];refine qm (T:=fun i:Nat=>qI 18 [(3,.int .u64 (qam (l.take i):Int)),(6,ql l),(7,.int .i64 l.length),(8,.int .i64 i)]) (H:=fun _=>h) (inv:=fun i=>i≤l.length) (m:=fun i=>l.length-i) 0 (Nat.zero_le _) (Wk.temps ?_) ?_
 ·(simp only[ql,go_sem,qh,qd,qa,qg];try (repeat' first|(with_reducible apply aiA)|(apply qi;omega)|(apply qe;rfl)|exact qj))
 rintro i i1 K hK
 by_cases hi:i<l.length
 ·have k1:((i:Int)<l.length)=True:=eq_true (by omega);have hv:=hb i hi;have hst:=qo4 hi;obtain⟨v,hv'⟩: ∃v,v=l.getD i 0:=⟨_,rfl⟩
  have ev:=hv'.symm;rw[ev]at hv hst;obtain⟨u,rfl⟩: ∃u:Nat,v=(u:Int):=⟨v.toNat,by omega⟩
  rw[Int.toNat_natCast]at hst;have k2:(0≤(u:Int))=True:=eq_true (by omega);have e1:=qmv (n:=u) (by omega);have hm:=qdf (qoV hb i1);have h2:(2:Nat)^u<2^64:=Nat.pow_lt_pow_right (by omega) (by omega);have e2:=qrm hm h2;simp (disch:=omega) only[ql,k1,k2,ev,e1,e2,go_sem]
  repeat' first
   |with_reducible apply aiA
  all_goals try exact clz
  refine hK _ _ (i+1) hi (by omega) (Wk.temps ?_);rw[hst]
  (simp only[ql,go_sem,qh,qd,qa,qg];try (repeat' first|(with_reducible apply aiA)|(apply qi;omega)|(apply qe;rfl)|exact qj))
 ·have k1:((i:Int)<l.length)=False:=eq_false (by omega);have e:i=l.length:=by omega
  subst e;rw[List.take_length];simp (disch:=omega) only[ql,k1,go_sem]
  repeat' first
   |(apply qf;exact rvk;simp only[go_sem];exact qj)
def zZ(p:Nat→Bool)(k:Nat):List Int:=((List.range k).filter p).map Int.ofNat
theorem kM(p:Nat→Bool)(k:Nat):zZ p (k+1)=zZ p k++if p k=true then [(k:Int)] else []:=by
 unfold zZ;rw[List.range_succ,List.filter_append,List.map_append];congr 1;rw[List.filter_cons];split<;>rfl
theorem zL(p:Nat→Bool)(k:Nat):(zZ p k).length≤k:=by
 unfold zZ;rw[List.length_map];exact Nat.le_trans (List.length_filter_le _ _) (by simp)
def qx(L:List Int):List AV:=L.map fun n=> .int .i64 n
theorem qV(L:List Int):(qx L).length=L.length:=by simp[qx]
theorem zN(L M:List Int):qx (L++M)=qx L++qx M:=by simp[qx]
theorem qeC{L:List Int}:qx L= []↔L= []:=by simp[qx]
theorem qau{L:List Int}{n:Nat}(g:AV→AV)(hg: ∀n,g (.int .i64 n)= .int .i64 n)(hn:n=L.length):VLe (.sl n fun i=>(((qx L).drop i).take 1).map g) (ql L):=by
 subst hn;refine VLe.sl_eq rfl (fun i hi=> ?_);unfold qx;rw[←List.map_drop,List.drop_eq_getElem_cons hi,List.map_cons,List.take_succ_cons,List.take_zero,List.map_cons,List.map_nil,hg,gdqA,zA hi];rfl
set_option maxHeartbeats 2000000 in
theorem qCf(m:Nat)(h:List AObj)(hm:m<2^64):ACalls Tryz.prog 126 [.int .u64 (m:Int)] h (ql (zZ m.testBit 64)) h:=by
 refine acO qwZ ?_;simp (disch:=omega) only[qvv,go_sem];refine qm (T:=fun i:Nat×Nat×Nat=>qI 19 [(0,.int .u64 (m:Int)),(3,.osl (h.length+1) i.2.1 1 0 (zZ m.testBit i.1).length),(5,.int .i64 i.1)]) (H:=fun i=>h++ [.emp 1,zV i.2.1 3 (qx (zZ m.testBit i.1)),.emp i.2.2,.emp 0])
  (inv:=fun i=>i.1≤64) (m:=fun i=>64-i.1) (0,1,0) (Nat.zero_le _) (Wk.temps ?_) ?_
 ·(simp only[zZ,List.range_zero,List.filter_nil,List.length_nil,go_sem,qh,qd,qa,qg];try (repeat' first|(with_reducible apply aiA)|(apply qi;omega)|(apply qe;rfl)|exact qj))
 rintro⟨i,v,w⟩ i1 K hK;simp only at i1 hK;have hst:=kM m.testBit i;have hln:=zL m.testBit i;obtain⟨L,hL⟩: ∃L,L=zZ m.testBit i:=⟨_,rfl⟩
 rw[←hL]at hst hln;have eL:=hL.symm;have eC:=qV L
 by_cases hi:i<64
 ·have k1:((i:Int)<64)=True:=eq_true (by omega);have k2:(0≤(i:Int))=True:=eq_true (by omega);have e1:=qjT (a:=m) (n:=i) hm hi;cases g:m.testBit i with
  |true=>
   rw[g,if_pos rfl]at e1;rw[g,if_pos rfl]at hst;have eT:List.take L.length (qx L)=qx L:=List.take_of_length_le (by omega);simp (disch:=omega) only[k1,k2,e1,eL,Nat.mul_one,go_sem]
   repeat' first
    |with_reducible apply aiA
   all_goals try exact clz
   have eA:qx L++ [AV.int .i64 (i:Int)]=qx (L++ [(i:Int)]):=by rw[zN];rfl
   rw[eT,eA];refine hK _ _ (i+1,v+1,w+1+1) hi (by simp only;omega) (Wk.trans Wk.kill2 ?_);simp only[hst];refine Wk.temps ?_
   (simp only[List.length_append,go_sem,qh,qd,qa,qg];try (repeat' first|(with_reducible apply aiA)|(apply qi;omega)|(apply qe;rfl)|exact qj))
  |false=>
   rw[g,if_neg (by simp)]at e1;rw[g,if_neg (by simp),List.append_nil]at hst;simp (disch:=omega) only[k1,k2,e1,eL,go_sem]
   repeat' first
    |with_reducible first|intro _|apply aiA
   all_goals try exact clz
   refine hK _ _ (i+1,v,w) hi (by simp only;omega) ?_;simp only[hst];refine Wk.temps ?_
   (simp only[go_sem,qh,qd,qa,qg];try (repeat' first|(with_reducible apply aiA)|(apply qi;omega)|(apply qe;rfl)|exact qj))
 ·have k1:((i:Int)<64)=False:=eq_false (by omega);obtain rfl:i=64:=by omega
  rw[←hL]
  by_cases g:L= []
  ·subst g;have e0:zV v 3 (qx [])= .emp v:=rfl;rw[e0];simp (disch:=omega) only[k1,go_sem]
   repeat' first
    |(apply qb;exact rvk;simp only[go_sem])
   exact jS
  ·have e0:zV v 3 (qx L)= .mem v 3 (qx L):=jJ (fun e=>g (qeC.1 e));rw[e0];simp (disch:=omega) only[k1,go_sem]
   repeat' first
    |(apply qb;exact rvk;simp only[go_sem])
   rw[if_pos (by omega)];refine qau _ ?_ rfl;intro n;rfl
theorem qhM(L:List Int):(ql L).flag=true:=rfl
theorem qf3(L:List Int):(ql L).strip=ql L:=rfl
theorem qk8{fz:Nat→Bool}{h:List AObj}{n:Nat}(L:List Int):frz fz h (n+1) (ql L)=ql L:=rfl
theorem qmg{fz:Nat→Bool}{h:List AObj}{n:Nat}(L:List Int):rei fz h (n+1) (ql L)=ql L:=rfl
theorem qk0(L:List Str):(strs L).flag=true:=rfl
theorem qiE(L:List Str):(strs L).strip=strs L:=rfl
theorem qoM{fz:Nat→Bool}{h:List AObj}{n:Nat}(L:List Str):frz fz h (n+1) (strs L)=strs L:=rfl
theorem qpC{fz:Nat→Bool}{h:List AObj}{n:Nat}(L:List Str):rei fz h (n+1) (strs L)=strs L:=rfl
theorem qkY(L:List Gr):(qF L).flag=true:=rfl
theorem qiC(L:List Gr):(qF L).strip=qF L:=rfl
theorem qoL{fz:Nat→Bool}{h:List AObj}{n:Nat}(L:List Gr):frz fz h (n+1) (qF L)=qF L:=rfl
theorem qpB{fz:Nat→Bool}{h:List AObj}{n:Nat}(L:List Gr):rei fz h (n+1) (qF L)=qF L:=rfl
attribute [go_sem] qhM qf3 qk8 qmg qk0 qiE qoM qpC qkY qiC qoL qpB
def nIx(names:List Str)(s:Str):Int:=qag (fun j=>decide (s=names.getD j [])) names.length 0
def gIx(gs:List Gr)(s:Str):Int:=qag (fun j=>decide (s=(gs.getD j default).name)) gs.length 0
def qpO(names:List Str)(gs:List Gr)(sg:List Str)(i:Nat):Int:=
 if nIx names (sg.getD i [])<0∧gIx gs (sg.getD i [])<0 then 6 else if qY (fun j=>decide (sg.getD i []=sg.getD j [])) i=true then 7 else 0
def els(names:List Str)(gs:List Gr)(s:Str):List Int:=if 0≤nIx names s then [nIx names s] else (gs.getD (gIx gs s).toNat default).mem
def qqr(names:List Str)(gs:List Gr)(sg:List Str):Nat→Nat
 |0=>0
 |i+1=>qqr names gs sg i|||qam (els names gs (sg.getD i []))
def qkP(names:List Str)(gs:List Gr)(sg:List Str):Int:=if sgE names gs≠0 then 1 else qa5 (qpO names gs sg) 0 sg.length
def qdb(names:List Str)(gs:List Gr)(sg:List Str):List Int:=if qkP names gs sg=0 then zZ (qqr names gs sg sg.length).testBit 64 else []
theorem qbC{b:Int}{l:List Int}(h:qcW b l=0):inB b l∧ ∀i,0<i→i<l.length→l.getD (i-1) 0<l.getD i 0:=by
 unfold qcW at h;rw[kp]at h;refine⟨fun i hi=> ?_,fun i h0 hi=> ?_⟩
 ·have:=h i hi
  unfold qcV at this;split at this
  ·cases this
  ·rename_i hc;omega
 ·have:=h i hi
  unfold qcV at this;split at this
  ·cases this
  ·split at this
   ·cases this
   ·rename_i hc;omega
structure qzX (names:List Str) (gs:List Gr):Prop where
 n32:names.length≤32
 g16:gs.length≤16
 na: ∀i,i<names.length→zO names i=0
 gr: ∀i,i<gs.length→qdC names gs i=0
theorem qha{names:List Str}{gs:List Gr}(h:sgE names gs=0):qzX names gs:=by
 unfold sgE at h;split at h
 ·cases h
 split at h
 ·rename_i h1;exact absurd h h1
 split at h
 ·cases h
 rename_i h1 h2 h3;exact⟨by omega,by omega,kp.1 (by simpa using h2),kp.1 h⟩
theorem qld{names:List Str}{gs:List Gr}(h:qzX names gs){i:Nat}(hi:i<gs.length):qcW names.length (gs.getD i default).mem=0:=by
 have:=h.gr i hi
 unfold qdC at this
 repeat' split at this
 all_goals first|(cases this;done)|exact this
theorem qlt(names:List Str)(s:Str):(∃k:Nat,k<names.length∧names.getD k []=s∧nIx names s=k)∨((∀j,j<names.length→s≠names.getD j [])∧nIx names s= -1):=by
 rcases zd (fun j=>decide (s=names.getD j [])) names.length with⟨i,h1,h2,_,h4⟩|⟨h1,h2⟩
 ·exact .inl ⟨i,h1,(of_decide_eq_true h2).symm,h4⟩
 ·exact .inr ⟨fun j hj=>of_decide_eq_false (h1 j hj),h2⟩
theorem qlb(gs:List Gr)(s:Str):(∃k:Nat,k<gs.length∧(gs.getD k default).name=s∧gIx gs s=k)∨((∀j,j<gs.length→s≠(gs.getD j default).name)∧gIx gs s= -1):=by
 rcases zd (fun j=>decide (s=(gs.getD j default).name)) gs.length with⟨i,h1,h2,_,h4⟩|⟨h1,h2⟩
 ·exact .inl ⟨i,h1,(of_decide_eq_true h2).symm,h4⟩
 ·exact .inr ⟨fun j hj=>of_decide_eq_false (h1 j hj),h2⟩
theorem qkK{names:List Str}{gs:List Gr}{s:Str}(h:qzX names gs)(hf: ¬(nIx names s<0∧gIx gs s<0)):inB names.length (els names gs s):=by
 unfold els;rcases qlt names s with⟨k,h1,_,h3⟩|⟨_,h3⟩
 ·rw[h3,if_pos (by omega)];intro i hi
  have:i=0:=by simpa using hi
  subst this;simp only[List.getD_cons_zero];omega
 ·rw[h3,if_neg (by omega)];rcases qlb gs s with⟨k,g1,_,g3⟩|⟨_,g3⟩
  ·rw[g3,Int.toNat_natCast];exact (qbC (qld h g1)).1
  ·exact absurd ⟨by omega,by omega⟩ hf
theorem qgN{b c:Int}{l:List Int}(h:inB b l)(hbc:b≤c):inB c l:=fun i hi=>⟨(h i hi).1,by have:=(h i hi).2;omega⟩
theorem qrF{names:List Str}{gs:List Gr}{sg:List Str}(h:qzX names gs): ∀ {i:Nat},(∀j,j<i→qpO names gs sg j=0)→qqr names gs sg i<2^64∧ ∀k,(qqr names gs sg i).testBit k=decide (∃j,j<i∧(k:Int)∈els names gs (sg.getD j [])):=by
 intro i
 induction i with
 |zero=>intro _;exact⟨Nat.two_pow_pos 64,fun k=>by simp[qqr]⟩
 |succ i ih=>
  intro hz;obtain⟨h1,h2⟩:=ih (fun j hj=>hz j (by omega));have h3: ¬(nIx names (sg.getD i [])<0∧gIx gs (sg.getD i [])<0):=by
   intro hc
   have:=hz i (by omega)
   unfold qpO at this;rw[if_pos hc]at this;cases this
  have h4:inB 64 (els names gs (sg.getD i [])):=qgN (qkK h h3) (by have:=h.n32;omega);refine⟨Nat.or_lt_two_pow h1 (qdf h4),fun k=> ?_⟩;unfold qqr;rw[Nat.testBit_or,h2 k,qab h4 k,←Bool.decide_or];refine decide_eq_decide.2 ⟨?_,?_⟩
  ·rintro (⟨j,hj,hm⟩|hm)
   ·exact⟨j,by omega,hm⟩
   ·exact⟨i,by omega,hm⟩
  ·rintro⟨j,hj,hm⟩
   by_cases e:j=i
   ·subst e;exact .inr hm
   ·exact .inl ⟨j,by omega,hm⟩
theorem qtF{e:Int}:VLe (.tup [.nl,.int .i64 e]) (.tup [ql [],.int .i64 e]):=zD ⟨jS,qj,trivial⟩
end RC
end
section
namespace AF
open Go Go.RowKit
theorem Ext.ofBelow{w w':World}{σ:List OB}{h:List AObj}(H:HR w σ h)(hb:Below w.heap.size w w'):HR w' σ h∧Ext w σ w' σ:=by
 have e:Ext w σ w' σ:=⟨hb.os,hb.tape,hb.output,hb.size,fun b hl _=>hb.block b hl,fun _ h=> .inl h,fun _ o h=>⟨o,h,Nat.le_refl _,fun _=>rfl⟩,
  fun b r h=>⟨r,(hb.block b (Array.getElem?_eq_some_iff.1 h).1).trans h⟩⟩
 exact⟨⟨H.len,H.inj,fun k o b h1 h2=>Nat.lt_of_lt_of_le (H.lt k o b h1 h2) hb.size,fun k a o h1 h2=>(H.obj k a o h1 h2).ext e (fun b h3=>hb.block b (H.lt k o b h2 h3))⟩,e⟩
end AF
end
section
namespace AF
open Go Go.ChangeShapes Go.WideShapes Go.ChangeAt Go.RowKit
def ql5:OB:=⟨none,0,0,0⟩
theorem qfN(b:Nat): ¬own [ql5] b:=by
 rintro⟨k,o,h,h2⟩;cases k with
 |zero=>simp at h;subst h;cases h2
 |succ k=>simp at h
theorem qym{w:World}{bs:List Nat}{G:World→Prop}(hb: ∀b,b∈bs→ ∃arr T fz,w.heap[b]? =some (.cells arr T fz))(hG: ∀w':World,(∀b,b∈bs→w'.heap[b]? =w.heap[b]?)→G w'):
  HR w [ql5] [.pin bs G]:=by
 refine⟨rfl,?_,?_,?_⟩
 ·intro i j oi oj b hi hj bi;cases i with
  |zero=>simp at hi;subst hi;cases bi
  |succ i=>simp at hi
 ·intro k o b hk hb';cases k with
  |zero=>simp at hk;subst hk;cases hb'
  |succ k=>simp at hk
 ·intro k a o ha ho;cases k with
  |zero=>
   simp at ha ho;subst ha;subst ho;exact⟨rfl,rfl,fun b h=>⟨qfN b,hb b h⟩,hG⟩
  |succ k=>simp at ha
theorem qs7(w:World):Ext w [] w [ql5]:=
 ⟨rfl,rfl,rfl,Nat.le_refl _,fun _ _ _=>rfl,fun b h=>absurd h (qfN b),fun k o h=>by simp at h,fun _ r h=>⟨r,h⟩⟩
theorem qi8{w w':World}{σ':List OB}(h:Ext w [ql5] w' σ'):Below w.heap.size w w':=⟨h.os,h.tape,h.output,h.size,fun k hk=>h.keep k hk (qfN k)⟩
theorem VRs.ext{w w':World}{σ σ':List OB}(h:Ext w σ w' σ'){avs:List AV}{xs:List Value}(hv:VRs w σ avs xs):VRs w' σ' avs xs:=⟨hv.1,fun i c x hc hx=>(hv.2 i c x hc hx).ext h⟩
theorem qyB{w:World}{σ:List OB}{h:List AObj}{k:Nat}{bs:List Nat}{G:World→Prop}(H:HR w σ h)(hk:h[k]? =some (.pin bs G)):G w:=by
 have hl:k<σ.length:=by rw[H.len];exact (List.getElem?_eq_some_iff.1 hk).1
 obtain⟨_,_,_,h4⟩:=H.obj k _ σ[k] hk (zA hl);exact h4 w (fun _ _=>rfl)
theorem qeF{H:Type}{enc:TypeId×Value→H}{P:Program}{W:World}{f:Func}{fid:FuncId}{s:ChangeSpec}{args:Array Value}{ds gs:List (DataW H)}{before:List MemPlace}{tb:TypeId}{bs:List Nat}{G:World→Prop}
  (hl:laidOutB P=true) (hv:s.vars= []) (hfn: ∀ds',ds'.length=f.params.size→s.fn H ds'= { results:= [.lit (.bool true)],args:=ds' })
  (hrt:f.resultTypes= #[tb]) (htb:P.underlying tb=some .bool) (hro: ∀t∈f.params.toList,P.readableRec t=true∧t<P.types.size)
  (hW:DataW.Whole enc P f.params.toList s.vars false W args.toList ds gs before)
  (hb: ∀b,b∈bs→ ∃arr T fz,W.heap[b]? =some (.cells arr T fz)) (hG: ∀w':World,(∀b,b∈bs→w'.heap[b]? =W.heap[b]?)→G w')
  (hc: ∀p,DataW.TrodAll enc P W 0 (fun _=>true) true f.params.toList args.toList ds p→ds.length=f.params.size∧ ∃avs:List AV,VRs W [] avs args.toList∧ACalls P fid avs [.pin bs G] (.bool true) [.pin bs G]):
  Calls P fid args W fun e W'=> ∃v,e= .returned v∧s.post enc P f false true false false W args v W':=by
 have hW':=hW;obtain⟨p,q,hA,hV,rfl,hz,_⟩:=hW;rw[hv]at hV;obtain⟨rfl,rfl⟩:=trodVars_none hV;obtain⟨hlen,avs,h1,h2⟩:=hc p hA;rw[List.append_nil]at hW';have h3:=h2.2 W [ql5] args.toList (qym hb hG) (h1.ext (qs7 W));rw[Array.toArray_toList]at h3;refine (callsIn_wide.1 h3).mono ?_;rintro e W' ⟨v,σ',rfl,g1,g2,g3⟩;obtain rfl:=jf g2;exact⟨_,rfl,qo0 hl hv (hfn ds hlen) hrt htb hro hW' hA (qi8 g3)⟩
theorem qd2{P:Program}{w w':World}{name:String}{g:Nat}(hg:P.globalNamed name=some g)(h:w'.heap[g]? =w.heap[g]?):w'.var? P name=w.var? P name:=by
 unfold World.var?;rw[hg];simp only[Option.bind_some];rw[h]
theorem qcM{P:Program}{w:World}{name:String}{g:Nat}{cs:Array Value}(hg:P.globalNamed name=some g)(h:w.var? P name=some cs): ∃arr T fz,w.heap[g]? =some (.cells arr T fz):=by
 unfold World.var? at h;rw[hg]at h;simp only[Option.bind_some]at h;split at h
 ·rename_i cs T fz hc;exact⟨_,_,_,hc⟩
 ·cases h
end AF
end
section
open Go Go.Proofs AF HY
namespace LN
def qqn (w : World) : Prop := Lib.TabIs Tryz.prog w "internal/strconv.uint64pow10" .u64 Lib.pow10Tab
def qvf (w : World) : Prop := (∃ tp p, w.var? Tryz.prog "strconv.ErrSyntax" = some #[.iface tp p]) ∧ ∃ tp p, w.var? Tryz.prog "strconv.ErrRange" = some #[.iface tp p]
def qaz(Q:World→Prop)(h:List AObj):Prop:= ∃(k:Nat) (bs:List Nat) (G:World→Prop),h[k]? =some (.pin bs G)∧ ∀w,G w→Q w
theorem qaz.app{Q:World→Prop}{h:List AObj}(hp:qaz Q h)(l:List AObj):qaz Q (h++l):=by
 obtain⟨k,bs,G,h1,h2⟩:=hp;exact⟨k,bs,G,by rw[List.getElem?_append_left (List.getElem?_eq_some_iff.1 h1).1];exact h1,h2⟩
theorem qaz.mono{Q Q':World→Prop}{h:List AObj}(hp:qaz Q h)(hq: ∀w,Q w→Q' w):qaz Q' h:=by
 obtain⟨k,bs,G,h1,h2⟩:=hp;exact⟨k,bs,G,h1,fun w hw=>hq w (h2 w hw)⟩
theorem qaz.of{Q:World→Prop}{h:List AObj}{w:World}{σ:List OB}(hp:qaz Q h)(H:HR w σ h):Q w:=by
 obtain⟨k,bs,G,h1,h2⟩:=hp;exact h2 w (qyB H h1)
theorem t48(n:Int)(h:List AObj)(hp:qaz qqn h)(h0: -9223372036854775808≤n)(h1:n≤9223372036854775807):ACalls Tryz.prog 86 [.int .i64 n] h (.str (Lib.itoa n)) h:=by
 refine⟨qyv Tryz.func86 (by kernel_rfl) (by kernel_rfl),fun w σ xs H hv=> ?_⟩;obtain⟨x,rfl,hx⟩:=hv.one;rw[zi hx];refine (callsIn_wide.2 (Any.strconv_Itoa Tryz.laysM171 n h0 h1 w (hp.of H))).mono ?_;rintro e w' ⟨rfl,k,os,rfl⟩;obtain⟨g1,g2⟩:=Ext.ofBelow H (Lib.below_grow w.heap.size w (Nat.le_refl _) k os);exact⟨_,σ,rfl,g1,.imm .str,g2⟩
def qvn(s:List UInt8):Int:=
 match Lib.atoiAll s with
 | .ok _=>0
 | .range=>Lib.atoiSat s
 |_=>0
def qrI(s:List UInt8):AV:=
 match Lib.atoiAll s with
 | .ok v=> .tup [.int .i64 v,.nilif]
 |_=> .tup [.int .i64 (qvn s),.ifc]
theorem t50(s:List UInt8)(h:List AObj)(hp:qaz qvf h)(hl:s.length≤281474976710656):ACalls Tryz.prog 291 [.str s] h (qrI s) h:=by
 refine⟨qyv Tryz.func291 (by kernel_rfl) (by kernel_rfl),fun w σ xs H hv=> ?_⟩;obtain⟨x,rfl,hx⟩:=hv.one;rw[zX hx];have hsz:(⟨s.toArray⟩:ByteArray).size≤281474976710656:=by simpa[ByteArray.size] using hl
 obtain⟨⟨t1,p1,e1⟩,t2,p2,e2⟩:=hp.of H;unfold qrI qvn;have hd:(⟨s.toArray⟩:ByteArray).data.toList=s:=rfl;cases hs:Lib.atoiAll s
 ·rename_i v;refine (callsIn_wide.2 (Any.strconv_Atoi_ok Tryz.laysC172 ⟨s.toArray⟩ (by omega) v (by rw[hd];exact hs) w)).mono ?_;rintro e w' ⟨rfl,hw⟩;have hb:Go.RowKit.Below w.heap.size w w':=by
   rcases hw with rfl|⟨t,rfl⟩
   ·exact Go.RowKit.Below.refl _ _
   ·exact Lib.bytesWorld_below _ _ _
  obtain⟨g1,g2⟩:=Ext.ofBelow H hb;refine⟨_,σ,rfl,g1,.imm (.tup rfl (fun i c y hc hy=> ?_)),g2⟩
  match i with
  |0=>simp at hc hy;subst hc hy;exact .int
  |1=>simp at hc hy;subst hc hy;exact .nilif
  |i+2=>simp at hc
 ·refine (callsIn_wide.2 (Any.strconv_Atoi_syntax_var Tryz.laysC172 ⟨s.toArray⟩ hsz (by rw[hd];exact hs) t1 p1 w e1)).mono ?_;rintro e w' ⟨N,rfl,_,_,hb⟩;obtain⟨g1,g2⟩:=Ext.ofBelow H hb;refine⟨_,σ,rfl,g1,.imm (.tup rfl (fun i c y hc hy=> ?_)),g2⟩
  match i with
  |0=>simp at hc hy;subst hc hy;exact .int
  |1=>simp at hc hy;subst hc hy;exact .ifc
  |i+2=>simp at hc
 ·refine (callsIn_wide.2 (Any.strconv_Atoi_range_var Tryz.laysC172 ⟨s.toArray⟩ hsz (by rw[hd];exact hs) t2 p2 w e2)).mono ?_;rintro e w' ⟨N,rfl,_,_,hb⟩;obtain⟨g1,g2⟩:=Ext.ofBelow H hb;refine⟨_,σ,rfl,g1,.imm (.tup rfl (fun i c y hc hy=> ?_)),g2⟩
  match i with
  |0=>simp at hc hy;subst hc hy;exact .int
  |1=>simp at hc hy;subst hc hy;exact .ifc
  |i+2=>simp at hc
theorem qlR: ∀(l r:List UInt8) (acc:Nat),Lib.parseUint10 acc (l++r)=match Lib.parseUint10 acc l with
  | .ok v=>Lib.parseUint10 v r
  |e=>e:=by
 intro l
 induction l with
 |nil=>intro r acc;rfl
 |cons c l ih=>
  intro r acc;rw[List.cons_append,Lib.parseUint10,Lib.parseUint10]
  by_cases h1:48≤c.toNat∧c.toNat≤57
  ·rw[if_pos h1,if_pos h1]
   by_cases h2:1844674407370955162≤acc
   ·rw[if_pos h2,if_pos h2]
   ·rw[if_neg h2,if_neg h2]
    by_cases h3:18446744073709551616≤acc*10+(c.toNat-48)
    ·rw[if_pos h3,if_pos h3]
    ·rw[if_neg h3,if_neg h3];exact ih r _
  ·rw[if_neg h1,if_neg h1]
theorem qdy{d:Nat}(h:d<10):(UInt8.ofNat (48+d)).toNat=48+d:=by
 rw[UInt8.toNat_ofNat'];omega
theorem qlS: ∀u,u<1000000000→Lib.parseUint10 0 (Lib.decDigits u)= .ok u:=by
 intro u
 induction u using Nat.strongRecOn with
 |_ u ih=>
  intro hu
  by_cases h:u<10
  ·rw[Lib.decDigits,dif_pos h,Lib.parseUint10,qdy h,if_pos (by omega),if_neg (by omega),if_neg (by omega),Lib.parseUint10];congr 1;omega
  ·rw[Lib.decDigits,dif_neg h,qlR,ih (u/10) (by omega) (by omega)];simp only;rw[Lib.parseUint10,qdy (by omega),if_pos (by omega),if_neg (by omega),if_neg (by omega),Lib.parseUint10];congr 1;omega
theorem qhF: ∀u,∀c∈Lib.decDigits u,48≤c.toNat∧c.toNat≤57:=by
 intro u
 induction u using Nat.strongRecOn with
 |_ u ih=>
  intro c hc
  by_cases h:u<10
  ·rw[Lib.decDigits,dif_pos h,List.mem_singleton]at hc;subst hc;rw[qdy h];omega
  ·rw[Lib.decDigits,dif_neg h]at hc;rcases List.mem_append.1 hc with hc|hc
   ·exact ih (u/10) (by omega) c hc
   ·rw[List.mem_singleton]at hc;subst hc;rw[qdy (by omega)];omega
theorem qwC(u:Nat):Lib.decDigits u≠ []:=by
 intro h
 have:=Lib.decDigits_length u
 have:=Lib.nDigits_pos u
 rw[h]at*;simp at*;omega
theorem qi6{n:Int}(h0:0≤n)(h1:n<1000000000):Lib.atoiAll (Lib.itoa n)= .ok n:=by
 obtain⟨u,rfl⟩: ∃u:Nat,n=u:=⟨n.toNat,by omega⟩
 rw[Lib.itoa_nonneg];have hd:=qhF u;have hp:=qlS u (by omega);have hne:=qwC u;cases hl:Lib.decDigits u with
 |nil=>exact absurd hl hne
 |cons c r=>
  rw[hl]at hd hp;have hc:=hd c (List.mem_cons_self ..);unfold Lib.atoiAll;simp only;rw[if_neg (show¬(c.toNat=43∨c.toNat=45) by omega)];unfold Lib.parseMag;rw[if_neg (by simp),hp];simp only;rw[if_neg (by omega),if_neg (by omega),if_neg (by omega)]
end LN
end
section
open Go Go.Proofs AF HY LN
namespace RC
theorem qnP{s:Str}{v:Int}(h:Lib.atoiAll s= .ok v): -9223372036854775808≤v∧v≤9223372036854775807:=by
 unfold Lib.atoiAll at h;split at h
 ·cases h
 ·simp only at h;split at h
  ·cases h
  ·cases h
  ·split at h
   ·cases h
   ·split at h
    ·cases h
    ·rename_i h1 h2;cases h;split
     ·rename_i h3;have:=mt (And.intro h3) h2;omega
     ·rename_i h3;have:=mt (And.intro h3) h1;omega
theorem qfG{k:Nat}(h:k≤64):(Lib.itoa (k:Int)).length≤9:=by
 rw[Lib.itoa_nonneg]
 by_cases g:k<10
 ·rw[Lib.decDigits,dif_pos g];simp
 ·rw[Lib.decDigits,dif_neg g,Lib.decDigits,dif_pos (show k/10<10 by omega)];simp
def SG(w:World):Prop:=qqn w∧qvf w
theorem SG.pow{h:List AObj}(hp:qaz SG h):qaz qqn h:=hp.mono fun _ h=>h.1
theorem SG.err{h:List AObj}(hp:qaz SG h):qaz qvf h:=hp.mono fun _ h=>h.2
def pre(s:Str):Bool:=decide (1≤s.length)&&decide (s.take 1= [91])
def qfa(s:Str):Bool:=(List.range 64).any fun k=>decide (s=91::(Lib.itoa ((k+1:Nat):Int)++ [93]))
def qBL(s:Str):Bool:=qav s||(if s.length=1 then decide (zK (ch s 0)=5)||decide (zK (ch s 0)=4) else qfa s)
def wE(s:Str):Int:=if qBL s=true then 0 else 11
def qny(L:List Str):Int:=qa5 (fun i=>wE (L.getD i [])) 0 L.length
theorem qCb(a b c:Str)(n f g:Int)(d:Str)(h:List AObj)(hf:0≤f)(hf2:f≤31)(hg:0<g):ACalls Tryz.prog 255 [.agg [.str a,.str b,.str c,.int .i64 n,.int .i64 f,.str d],.int .i64 g] h (.bool (decide (f/g%2=1))) h:=by
 have k1:(g=0)=False:=eq_false (by omega);have k2:0≤f/g:=Int.ediv_nonneg hf (by omega);have k3:f/g≤f:=Int.ediv_le_self _ hf;refine acO qxG ?_;simp (disch:=omega) only[qv7,go_sem]
 repeat' first
  |(apply qb;exact rvk;simp only[go_sem];exact qj)
  |with_reducible apply aiA
 all_goals try exact clz
theorem qCX(s:Str)(h:List AObj)(hs:s.length≤1000000000)(hp:qaz SG h):ACalls Tryz.prog 256 [.str s] h (.bool (qfa s)) h:=by
 refine acO qxH ?_;simp (disch:=omega) only[qv8,go_sem];refine qm (T:=fun i:Nat=>qI 14 [(0,.str s),(3,.int .i64 ((i+1:Nat):Int))]) (H:=fun _=>h) (inv:=fun i=>i≤64∧ ∀j,j<i→s≠91::(Lib.itoa ((j+1:Nat):Int)++ [93])) (m:=fun i=>64-i) 0 ⟨Nat.zero_le _,fun j hj=>absurd hj (Nat.not_lt_zero j)⟩ (Wk.temps ?_) ?_
 ·(simp only[go_sem,qh,qd,qa,qg];try (repeat' first|(with_reducible apply aiA)|(apply qi;omega)|(apply qe;rfl)|exact qj))
 rintro i ⟨i1,i2⟩ K hK;have ec:((i+1:Nat):Int)=(i:Int)+1:=by omega
 by_cases hi:i<64
 ·have k1:((i:Int)+1≤64)=True:=eq_true (by omega);have c181:=t48 ((i:Int)+1) h (SG.pow hp) (by omega) (by omega);have hl:(Lib.itoa ((i:Int)+1)).length≤9:=by rw[←ec];exact qfG (by omega)
  obtain⟨t,ht⟩: ∃t,t=Lib.itoa ((i:Int)+1):=⟨_,rfl⟩
  rw[←ht]at c181 hl
  by_cases g:s=91::(t++ [93])
  ·have q1:(s=91::(t++ [93]))=True:=eq_true g;have hV:qfa s=true:=by
    unfold qfa;rw[List.any_eq_true];exact⟨i,by simpa using hi,decide_eq_true (by rw[ec,←ht];exact g)⟩
   rw[hV];simp (disch:=omega) only[ec,k1,go_sem]
   repeat' first
    |(refine cA (c181) ?_ ?_;exact flk;simp (disch:=omega) only[q1,go_sem])
    |(apply qf;exact rvk;simp only[go_sem];exact qj)
    |with_reducible apply aiA
   all_goals try exact clz
  ·have q1:(s=91::(t++ [93]))=False:=eq_false g;simp (disch:=omega) only[ec,k1,go_sem]
   repeat' first
    |(refine cA (c181) ?_ ?_;exact flk;simp (disch:=omega) only[q1,go_sem])
    |with_reducible apply aiA
   all_goals try exact clz
   refine hK _ _ (i+1) ⟨hi,fun j hj=> ?_⟩ (by omega) (Wk.temps ?_)
   ·by_cases e':j=i
    ·subst e';rw[ec,←ht];exact g
    ·exact i2 j (by omega)
   ·(simp only[go_sem,qh,qd,qa,qg];try (repeat' first|(with_reducible apply aiA)|(apply qi;omega)|(apply qe;rfl)|exact qj))
 ·have k1:((i:Int)+1≤64)=False:=eq_false (by omega);have hV:qfa s=false:=by
   cases e:qfa s with
   |false=>rfl
   |true=>
    unfold qfa at e;rw[List.any_eq_true]at e;obtain⟨j,hj,e⟩:=e;exact absurd (of_decide_eq_true e) (i2 j (by have:j<64:=(by simpa using hj);omega))
  rw[hV];simp (disch:=omega) only[ec,k1,go_sem]
  repeat' first
   |(apply qf;exact rvk;simp only[go_sem];exact qj)
end RC
end
