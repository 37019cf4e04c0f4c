import Derived.Test.YtgoandblgcjleaaGreatDoorK8
import Derived.Test.YtgoandblgcjleaaGreatDoorK3
import Derived.Test.YtgoandblgcjleaaGreatDoorK4
import Derived.Test.YtgoandblgcjleaaGreatDoorProg
import Derived.Lib.AppendIntMem
import Derived.Stop.LaidErr
import Derived.Lib.ItoaLen
import Derived.Test.YtgoandblgcjleaaGreatDoorK1
import Derived.RangeFuncBox
import Derived.Laws.Rows
import Derived.Shelf.Strings.OnBuilder
set_option linter.all false
set_option linter.unusedSimpArgs false
set_option linter.unusedVariables false
set_option linter.unusedSectionVars false
set_option maxHeartbeats 64000000
set_option maxRecDepth 100000
section
open Go Go.Proofs AF HY
namespace HY
theorem qcJ{l:List (List UInt8)}{p:List UInt8→Bool}{i:Nat}(h:i<l.length):(l.take (i+1)).any p=((l.take i).any p||p (l.getD i [])):=by
 rw[qlB l h,List.any_append];simp
theorem qsY{l:List (List UInt8)}{p:List UInt8→Bool}{i:Nat}(h:i<l.length)(hp:p (l.getD i [])=true):l.any p=true:=by
 rw[List.any_eq_true];refine⟨l.getD i [],?_,hp⟩;rw[gdqA,jr h];exact List.getElem_mem h
theorem qqu{s:List UInt8}{i:Nat}(h:i<(qej s).length):0<((qej s).getD i []).length:=by
 apply List.length_pos_iff.2;apply qqv (s:=s);rw[gdqA,jr h];exact List.getElem_mem h
set_option maxHeartbeats 4000000 in
theorem qz5(s:List UInt8)(h:List AObj)(hs:s.length≤1000000000):ACalls Tryz.prog 288 [.str s] h (.int .i64 (qal s)) h:=by
 have hit:=qx2 s hs;unfold qal
 by_cases hl:65536<s.length
 ·have hl':(65536<(s.length:Int))=True:=eqt om;rw[ipo hl];refine qt qpe (by simp) ?_;simp only[lco,lnl,Nat.reduceAdd,Nat.reduceSub,List.replicate,lca,lna];simp (disch:=omega) only[qqa,hl',go_sem]
  repeat' first
   |(apply qa;exact rvk;simp only[go_sem];exact qi)
  all_goals trace_state
 ·have hl':(65536<(s.length:Int))=False:=eqf om;rw[ine hl];refine qt qpe (by simp) ?_;simp only[lco,lnl,Nat.reduceAdd,Nat.reduceSub,List.replicate,lca,lna];simp (disch:=omega) only[qqa,hl',go_sem]
  repeat' first
   |(refine qw (t91 s _) ?_ ?_;exact flk;simp (disch:=omega) only[go_sem])
  refine qg1 (xs:=qdx s) hit (by intro a ha;simp[qdx]at ha;obtain⟨_,_,_,rfl⟩:=ha;rfl)
   (S:=fun i hh=>hh=h++ [.mem 1 35 [.int .i64 0]]∧((qej s).take i).any zi=false)
   (E:=fun e hh=>e= .ret∧hh=h++ [.mem 1 35 [.int .i64 11]]∧(qej s).any zi=true) ?_ ?_ ?_ ?_ ?_ ?_ ?_
  ·rintro i hh ⟨rfl,_⟩;exact LowI.refl _
  ·rintro e hh ⟨_,rfl,_⟩;refine LowI.app rfl (fun o ho=> ?_);simp only[List.mem_cons,List.not_mem_nil,or_false]at ho;subst ho;right;constructor<;>(intro c hc;simp at hc;subst hc;rfl)
  ·exact⟨rfl,by simp⟩
  ·simp[jb,jb.lowVs,qja]
   try omega
  ·rintro i hh tl L hi ⟨rfl,hno⟩ hlen;obtain⟨n,hx⟩:=qjd s hi;rw[qdy]at hi;rw[hx];have hnx:=qcJ (p:=zi) hi;rw[hno,Bool.false_or]at hnx;have hat:=qsY (p:=zi) hi;obtain⟨c,hc⟩: ∃c,c=(qej s).getD i []:=⟨_,rfl⟩
   have hcl:=qqu hi;rw[←hc]at hcl hnx hat ⊢;simp only[qb0];simp (disch:=omega) only[List.append_assoc,eq_self,jx,go_sem]
   repeat' first
    |(refine qw (qdd _ _) ?_ ?_;exact flk;simp (disch:=omega) only[eq_self,go_sem])
    |with_reducible first|intro _|apply aiA
   all_goals try exact clz
   ·rename_i hx;exact⟨h++ [.mem 1 35 [.int .i64 11]],by simp,by simp,by simp,hat (by unfold zi;simpa using hx)⟩
   ·rename_i hx;exact⟨h++ [.mem 1 35 [.int .i64 0]],by simp,by simp,by simp,by rw[hnx];unfold zi;simpa using hx⟩
  ·rintro hh ⟨rfl,hno⟩;rw[qdy,List.take_length]at hno;rw[hno];simp (disch:=omega) only[go_sem]
   repeat' first
    |(apply qa;exact rvk;simp only[go_sem];exact qi)
   all_goals trace_state
  ·rintro e hh ⟨rfl,rfl,hb⟩;rw[hb];show Ex.inBlock 0 _ .ret _ _;simp (disch:=omega) only[go_sem]
   repeat' first
    |(apply qa;exact rvk;simp only[go_sem];exact qi)
   all_goals trace_state
theorem qz7(c:UInt8)(h:List AObj):ACalls Tryz.prog 290 [.int .u8 (c.toNat:Int)] h (.bool (spc c)) h:=by
 refine qt qu1 (by simp) ?_;simp only[lco,lnl,Nat.reduceAdd,Nat.reduceSub,List.replicate,lca,lna,lan];simp (disch:=omega) only[qtF,go_sem]
 repeat' first
  |(refine qw (qdd c _) ?_ ?_;exact flk;simp (disch:=omega) only[go_sem])
  |(apply qc;exact rvk;simp only[go_sem];exact qi)
def kN(s:List UInt8):AV:= .sl s.length fun i=> [.int .u8 ((s.getD i 0).toNat:Int)]
def qbr(p:UInt8→Bool):List UInt8→Nat→Int
 | [],_=> -1
 |c::r,i=>if p c=true then i else qbr p r (i+1)
theorem qju(p:UInt8→Bool): ∀(s:List UInt8) (i:Nat),(0≤qbr p s i↔s.any p=true)∧ -1≤qbr p s i:=by
 intro s
 induction s with
 |nil=>intro i;simp[qbr]
 |cons c r ih=>
  intro i
  by_cases hc:p c=true
  ·have e:qbr p (c::r) i=i:=ipo hc;rw[e,List.any_cons,hc];simp
   try omega
  ·have e:qbr p (c::r) i=qbr p r (i+1):=ine hc;rw[e,List.any_cons];have hc':p c=false:=by simpa using hc
   rw[hc',Bool.false_or];exact ih (i+1)
theorem qjt(p:UInt8→Bool)(s:List UInt8)(i:Nat):decide (0≤qbr p s i)=s.any p:=by
 rw[Bool.eq_iff_iff,decide_eq_true_eq];exact (qju p s i).1
theorem qAa(s:List UInt8)(p:UInt8→Bool)(F:Nat)(h:List AObj)(hs:s.length≤1000000000)(hp: ∀(c:UInt8) (h:List AObj),ACalls Tryz.prog F [.int .u8 (c.toNat:Int)] h (.bool (p c)) h):ACalls Tryz.prog 308 [kN s,.fn (.func F) [] []] h (.int .i64 (qbr p s 0)) h:=by
 refine qt qu7 (by simp) ?_;simp only[lco,lnl,Nat.reduceAdd,Nat.reduceSub,List.replicate,lca,lna,lan];simp (disch:=omega) only[qtK,kN,go_sem];refine qn (T:=fun i:Nat=>qM 19 [(0,kN s),(1,.fn (.func F) [] []),(6,kN s),(7,.int .i64 s.length),(8,.int .i64 i)]) (H:=fun _=>h) (inv:=fun i=>i≤s.length∧qbr p s 0=qbr p (s.drop i) i) (m:=fun i=>s.length-i) 0 ⟨om,by simp⟩ (Wk.temps ?_) ?_
 ·(simp only[kN,qM,List.foldl,go_sem,qh,qe,qb,qg];try (repeat' first|(with_reducible apply aiA)|(apply qf;omega)|(apply qd;rfl)|exact qi))
 ·rintro i ⟨i1,i2⟩ K hK;rw[i2]
  by_cases hi:i<s.length
  ·have e:s.drop i=s.getD i 0::s.drop (i+1):=by rw[List.drop_eq_getElem_cons hi];simp[gdqA,hi]
   rw[e]at i2 ⊢;simp only[qbr]at i2 ⊢;have hpc:=fun h=>hp (s.getD i 0) h
   cases hb:p (s.getD i 0)with
   |true=>
    rw[hb]at hpc;simp (disch:=omega) only[qM,List.foldl,kN,go_sem]
    repeat' first
     |(refine qu (hpc _) ?_;simp (disch:=omega) only[go_sem,ql])
     |(apply qc;exact rvk;simp only[go_sem];first|exact qi|apply qf)
     |with_reducible first|intro _|apply aiA
    all_goals try exact clz
   |false=>
    rw[hb]at hpc i2;simp (disch:=omega) only[qM,List.foldl,kN,go_sem]
    repeat' first
     |(refine qu (hpc _) ?_;simp (disch:=omega) only[go_sem,ql])
     |(apply qc;exact rvk;simp only[go_sem];apply qf)
     |with_reducible first|intro _|apply aiA
    all_goals try exact clz
    refine hK _ _ (i+1) ⟨om,by rw[i2];simp⟩ om (Wk.temps ?_)
    (simp only[kN,qM,List.foldl,go_sem,qh,qe,qb,qg];try (repeat' first|(with_reducible apply aiA)|(apply qf;omega)|(apply qd;rfl)|exact qi))
  ·have e:i=s.length:=by omega
   subst e;rw[List.drop_length];simp (disch:=omega) only[qM,List.foldl,kN,go_sem]
   repeat' first
    |(apply qc;exact rvk;simp only[go_sem];exact qi)
    |with_reducible first|intro _|apply aiA
   all_goals try exact clz
theorem qz6(s:List UInt8)(p:UInt8→Bool)(F:Nat)(h:List AObj)(hs:s.length≤1000000000)(hp: ∀(c:UInt8) (h:List AObj),ACalls Tryz.prog F [.int .u8 (c.toNat:Int)] h (.bool (p c)) h):ACalls Tryz.prog 289 [kN s,.fn (.func F) [] []] h (.bool (s.any p)) h:=by
 rw[←qjt p s 0];refine qt qu0 (by simp) ?_;simp only[lco,lnl,Nat.reduceAdd,Nat.reduceSub,List.replicate,lca,lna,lan];simp (disch:=omega) only[qtE,kN,go_sem]
 repeat' first
  |(refine qw (qAa s p F _ hs hp) ?_ ?_;exact flk;simp (disch:=omega) only[go_sem])
  |(apply qc;exact rvk;simp only[go_sem];exact qi)
theorem t88(s:List UInt8)(h:List AObj)(hs:s.length≤1000000000):ACalls Tryz.prog 247 [.str s] h (.bool (kT s)) h:=by
 obtain⟨c,hc⟩: ∃c,c=qal s:=⟨_,rfl⟩
 have h104: ∀h:List AObj,ACalls Tryz.prog 288 [.str s] h (.int .i64 c) h:=fun h=>by rw[hc];exact qz5 s h hs
 have hw:kT s=(decide (0<s.length)&&decide (s.length≤64)&&decide (c=0)&&(decide (kind (ch s 0)=1)||decide (kind (ch s 0)=3))&& !(s.any spc)):=by rw[hc];rfl
 rw[hw]
 by_cases g1:0<s.length
 ·have k1:(s= [])=False:=eqf (by intro e;rw[e]at g1;simp at g1)
  by_cases g2:s.length≤64
  ·have k2:(64<(s.length:Int))=False:=eqf om
   by_cases g3:c=0
   ·refine qt qfE (by simp) ?_;simp only[lco,lnl,Nat.reduceAdd,Nat.reduceSub,List.replicate,lca,lna,lan];simp (disch:=omega) only[qiO,k1,k2,g3,go_sem]
    repeat' first
     |((first|refine qw (qdd _ _) ?_ ?_|refine qw (qz6 s spc 290 _ hs qz7) ?_ ?_);exact flk;simp (disch:=omega) only[go_sem])
     |(refine qE (fun e=>⟨?_,h104 _⟩) ?_;exact flk;simp (disch:=omega) only[g3,jx,go_sem])
     |(apply qc;exact rvk;simp only[go_sem];apply qd)
     |with_reducible first|intro _|apply aiA
    all_goals try exact clz
    all_goals (generalize s.any spc=b;grind)
   ·refine qt qfE (by simp) ?_;simp only[lco,lnl,Nat.reduceAdd,Nat.reduceSub,List.replicate,lca,lna,lan];simp (disch:=omega) only[qiO,k1,k2,go_sem]
    repeat' first
     |(refine qE (fun e=>⟨?_,h104 _⟩) ?_;exact flk;simp (disch:=omega) only[g3,jx,go_sem])
     |(apply qc;exact rvk;simp only[go_sem];exact qi)
    all_goals (generalize s.any spc=b;grind)
  ·have k2:(64<(s.length:Int))=True:=eqt om;refine qt qfE (by simp) ?_;simp only[lco,lnl,Nat.reduceAdd,Nat.reduceSub,List.replicate,lca,lna,lan];simp (disch:=omega) only[qiO,k1,k2,go_sem]
   repeat' first
    |(refine qj ((.int .i64 0)) ?_;simp (disch:=omega) only[go_sem])
    |(apply qc;exact rvk;simp only[go_sem];apply qd)
   all_goals (generalize s.any spc=b;grind)
 ·have e:s= []:=List.eq_nil_of_length_eq_zero om;subst e;refine qt qfE (by simp) ?_;simp only[lco,lnl,Nat.reduceAdd,Nat.reduceSub,List.replicate,lca,lna,lan];simp (disch:=omega) only[qiO,go_sem]
  repeat' first
   |(refine qj ((.int .i64 0)) ?_;simp (disch:=omega) only[go_sem])
   |(apply qc;exact rvk;simp only[go_sem];exact qi)
  all_goals (generalize List.any _ spc=b;grind)
end HY
end
section
open Go Go.Proofs AF
def jZ:List Nat:= [132,109,174,220,68]
theorem qxK:qI Tryz.prog 53 26 0 [RV.tmp 4] cEQ:=fi Tryz.f53 [] jZ []
theorem qvc:qI Tryz.prog 40 26 0 [RV.tmp 4] cEQ:=fi Tryz.f40 [] jZ []
def qpT:C:=
 ((C.ops [MC 4 (.bool false)]).seq (((C.ops [MV 6 0,O1 7 .len 6,MV 8 1,O1 9 .len 8,BI 10 .neq 7 9]).seq (C.cond (.t 10) ((C.ops [MC 4 (.bool false)]).seq C.ret) C.skip)).seq
 (((C.ops [MC 5 (i6 0)]).seq (C.block 0 (((C.ops [MV 11 5,MV 12 0,O1 13 .len 12,BI 14 .lss 11 13]).seq (C.cond (.t 14) C.skip (C.exit 0))).seq ((C.block 1 ((C.ops [MV 17 0,MV 18
 5,O2 19 (.idxA 1) 17 18,LD 20 19,MV 21 1,MV 22 5,O2 23 (.idxA 1) 21 22,LD 24 23,BI 25 .neq 20 24]).seq (C.cond (.t 25) ((C.ops [MC 4 (.bool false)]).seq C.ret) C.skip))).seq
 (C.ops [MV 15 5,BC 16 .add 15 (i6 1),MV 5 16]))).loop)).seq ((C.ops [MC 4 (.bool true)]).seq
 C.ret))))
theorem qoV:qI Tryz.prog 103 26 0 [RV.tmp 4] qpT:=fi Tryz.f103 [] jZ []
theorem qxJ:qI Tryz.prog 43 9 0 [RV.tmp 4] (cCT 117):=fi Tryz.f43 [] jZ []
theorem qup:qI Tryz.prog 117 19 0 [RV.tmp 4] cIX:=fi Tryz.f117 [] jZ []
def qtq:C:=
 ((C.ops [MC 4 (.str []),MC 5 (.bool false)]).seq ((C.ops [MV 6 0,MV 7 1,O2 8 (.call 284 true) 6 7,O1 9 (.ext 0) 8,O1 10 (.ext 1) 8,MV 4 9,MV 5 10]).seq
 C.ret))
theorem quK:qI Tryz.prog 241 11 0 [RV.tmp 4,RV.tmp 5] qtq:=fi Tryz.f241 [] jZ []
def qyS:C:=
 ((C.ops [MC 4 (.bool false)]).seq (((C.ops [MC 5 (i6 0)]).seq (C.block 0 (((C.ops [MV 6 5,MV 7 0,O1 8 .len 7,BI 9 .lss 6 8]).seq (C.cond (.t 9) C.skip (C.exit 0))).seq ((C.block
 1 ((C.ops [MV 12 0,MV 13 5,O2 14 (.idxA 1) 12 13,LD 15 14,O1 16 .slen 15,BC 17 .gtr 16 (i6 20)]).seq (C.cond (.t 17) ((C.ops [MC 4 (.bool true)]).seq C.ret) C.skip))).seq
 (C.ops [MV 10 5,BC 11 .add 10 (i6 1),MV 5 11]))).loop)).seq ((C.ops [MV 18 0,O1 19 .len 18,MV 20 1,BI 21 .gtr 19 20,MV 4 21]).seq
 C.ret)))
theorem qxM:qI Tryz.prog 70 22 0 [RV.tmp 4] qyS:=fi Tryz.f70 [] jZ []
def qp9:C:=
 ((C.ops [MC 4 (.str []),MC 5 (.bool false)]).seq (((C.ops [MV 6 0,MV 7 1,O2 8 (.call 304 true) 6 7,O1 9 (.un UnOp.not) 8]).seq (C.cond (.t 9) ((C.ops [MV 10 0,MV 4 10,MC 5
 (.bool false)]).seq C.ret) C.skip)).seq ((C.ops [MV 11 0,MV 12 0,O1 13 .slen 12,MV 14 1,O1 15 .slen 14,BI 16 .sub 13 15,O2 17 (.sslc false true) 11 16,MV 4 17,MC 5 (.bool
 true)]).seq
 C.ret)))
theorem qpd:qI Tryz.prog 284 18 0 [RV.tmp 4,RV.tmp 5] qp9:=fi Tryz.f284 [] jZ []
def jp:C:=
 ((C.ops [O1 1 (.box 0 124) 0,MC 2 (i6 0)]).seq (((C.ops [O1 6 (.fldA 4) 1,LD 7 6,BC 8 .lss 7 (i6 0),MV 9 8,P1 10 9 false (.fldA 4) 1,P1 11 9 false (.load none) 10,PC 12 9
 false (.bin .gtr) 11 (i6 31),PT 13 9 12]).seq (C.cond (.t 13) ((C.ops [MC 2 (i6 2)]).seq C.ret) C.skip)).seq ((C.ops [O1 14 (.load (some 6)) 1,OC 15 (.call 255 true) 14 (i6 2),
 O1 16 (.load (some 6)) 1,OC 17 (.call 255 true) 16 (i6 8),MV 3 15,MV 4 17]).seq (((C.ops [MV 18 3,MV 19 18,MG 20 19 true 4,PF 21 19 20]).seq (C.cond (.t 21) ((C.ops [MC 2 (i6
 8)]).seq C.ret) C.skip)).seq ((C.block 0 ((C.ops [MV 51 3,MV 50 51]).seq (C.cond (.t 50) ((C.ops [O1 52 (.fldA 0) 1,LD 53 52,O1 54 (.call 256 true) 53,O1 55 (.un UnOp.not) 54,
 MV 56 55,P1 57 56 false (.fldA 1) 1,P1 58 56 false (.load none) 57,P1 59 56 false (.fldA 0) 1,P1 60 56 false (.load none) 59,P2 61 56 false (.bin .neq) 58 60,PT 62 56
 61]).seq (C.cond (.t 62) ((C.ops [MC 2 (i6 11)]).seq C.ret) C.skip)) ((C.ops [MV 64 4,MV 63 64]).seq (C.cond (.t 63) ((C.ops [O1 65 (.fldA 0) 1,LD 66 65,O1 67 .slen 66,BC 68
 .neq 67 (i6 1),MV 69 68,P1 70 69 false (.fldA 0) 1,P1 71 69 false (.load none) 70,PC 72 69 false .sidx 71 (i6 0),P1 73 69 false (.call 257 true) 72,PC 74 69 false (.bin .neq)
 73 (i6 5),MG 75 69 false 74,P1 76 75 true (.fldA 0) 1,P1 77 75 true (.load none) 76,PC 78 75 true .sidx 77 (i6 0),P1 79 75 true (.call 257 true) 78,PC 80 75 true (.bin .neq)
 79 (i6 4),QF 81 69 false 75 80,PT 82 69 81,MV 83 82,P1 84 83 false (.fldA 1) 1,P1 85 83 false (.load none) 84,P1 86 83 false (.fldA 0) 1,P1 87 83 false (.load none) 86,P2
 88 83 false (.bin .neq) 85 87,PT 89 83 88]).seq (C.cond (.t 89) ((C.ops [MC 2 (i6 11)]).seq C.ret) C.skip)) (((C.ops [O1 22 (.fldA 0) 1,LD 23 22,O1 24 (.call 216 true) 23,O1 25
 (.un UnOp.not) 24,MV 26 25,P1 27 26 false (.fldA 1) 1,P1 28 26 false (.load none) 27,PC 29 26 false (.bin .eql) 28 (.str []),PT 30 26 29,MV 31 30,P1 32 31 false (.fldA 1) 1,
 P1 33 31 false (.load none) 32,P1 34 31 false .slen 33,PC 35 31 false (.bin .gtr) 34 (i6 64),PT 36 31 35]).seq (C.cond (.t 36) ((C.ops [MC 2 (i6 11)]).seq C.ret) C.skip)).seq
 ((C.ops [MC 5 (i6 0)]).seq (C.block 1 (((C.ops [MV 37 5,O1 38 (.fldA 1) 1,LD 39 38,O1 40 .slen 39,BI 41 .lss 37 40]).seq (C.cond (.t 41) C.skip (C.exit 1))).seq ((C.block 2
 ((C.ops [O1 44 (.fldA 1) 1,LD 45 44,MV 46 5,O2 47 .sidx 45 46,O1 48 (.call 258 true) 47,O1 49 (.un UnOp.not) 48]).seq (C.cond (.t 49) ((C.ops [MC 2 (i6 11)]).seq C.ret)
 C.skip))).seq (C.ops [MV 42 5,BC 43 .add 42 (i6 1),MV 5 43]))).loop)))))))).seq (((C.ops [O1 90 (.fldA 2) 1,O1 91 (.fldA 1) 90,LD 92 91,BC 93 .lss 92 (i6 0)]).seq (C.cond (.t
 93) ((C.ops [MC 2 (i6 2)]).seq C.ret) C.skip)).seq (((C.ops [O1 94 (.fldA 2) 1,O1 95 (.fldA 0) 94,LD 96 95,O1 97 (.call 259 true) 96,O1 98 (.un UnOp.not) 97,MV 99 98,P1 100
 99 false (.fldA 5) 1,P1 101 99 false (.load none) 100,P1 102 99 false (.call 259 true) 101,P1 103 99 false (.un UnOp.not) 102,PT 104 99 103]).seq (C.cond (.t 104) ((C.ops [MC 2
 (i6 14)]).seq C.ret) C.skip)).seq ((C.ops [MC 2 (i6 0)]).seq
 C.ret))))))))
theorem zq:qI Tryz.prog 211 105 1 [RV.tmp 2] jp:=fi Tryz.f211 [1] jZ []
def qtv:C:=
 ((C.ops [O1 2 (.box 0 124) 0,MC 4 (.bool false)]).seq ((C.ops [O1 5 (.fldA 4) 2,LD 6 5,MV 7 1,BI 8 .quo 6 7,BC 9 .rem 8 (i6 2),BC 10 .eql 9 (i6 1),MV 4 10]).seq
 C.ret))
theorem quR:qI Tryz.prog 255 11 1 [RV.tmp 4] qtv:=fi Tryz.f255 [2] jZ []
def qtw:C:=
 ((C.ops [MC 2 (.bool false)]).seq (((C.ops [MC 3 (i6 1)]).seq (C.block 0 (((C.ops [MV 4 3,BC 5 .leq 4 (i6 64)]).seq (C.cond (.t 5) C.skip (C.exit 0))).seq ((C.block 1 ((C.ops [MV
 8 0,MV 9 3,O1 10 (.call 86 true) 9,ON 11 (.bin .add) [.c (.str [91]),.t 10],BC 12 .add 11 (.str [93]),BI 13 .eql 8 12]).seq (C.cond (.t 13) ((C.ops [MC 2 (.bool true)]).seq
 C.ret) C.skip))).seq (C.ops [MV 6 3,BC 7 .add 6 (i6 1),MV 3 7]))).loop)).seq ((C.ops [MC 2 (.bool false)]).seq
 C.ret)))
theorem quS:qI Tryz.prog 256 14 0 [RV.tmp 2] qtw:=fi Tryz.f256 [] jZ []
def qiP:C:=
 ((C.ops [MC 2 (.bool false)]).seq ((C.ops [MV 4 0,O1 5 (.call 257 true) 4,MV 3 5]).seq ((C.ops [MV 6 3,BC 7 .eql 6 (i6 1),MV 8 7,MG 9 8 false 3,PC 10 8 false (.bin .eql) 9
 (i6 2),PT 11 8 10,MV 12 11,MG 13 12 false 3,PC 14 12 false (.bin .eql) 13 (i6 3),PT 15 12 14,MV 16 15,MG 17 16 false 3,PC 18 16 false (.bin .eql) 17 (i6 4),PT 19 16 18,MV
 2 19]).seq
 C.ret)))
theorem qfF:qI Tryz.prog 258 20 0 [RV.tmp 2] qiP:=fi Tryz.f258 [] jZ []
def qp5:C:=
 ((C.ops [MC 2 (.bool false)]).seq ((C.ops [MV 3 0,BC 4 .eql 3 (.str []),MV 5 4,MG 6 5 false 0,P1 7 5 false (.call 166 true) 6,PT 8 5 7,MV 2 8]).seq
 C.ret))
theorem qo9:qI Tryz.prog 259 9 0 [RV.tmp 2] qp5:=fi Tryz.f259 [] jZ []
end
section
open Go Go.Proofs AF HY LN
namespace RC
abbrev Str:=List UInt8
def qq(L:List Int):AV:= .sl L.length fun i=> [.int .i64 (L.getD i 0)]
def qe5(s:Str):Bool:=decide (1≤s.length)&&decide (s.drop (s.length-1)= [42])
def qoc(s:Str):Bool:=if qe5 s=true then j0 (s.take (s.length-1))&&decide (s.length≤16) else j0 s
theorem qrC:((1:Nat):Int)=1:=rfl
theorem qpl(s:Str)(h:List AObj)(hs:s.length≤1000000000):ACalls Tryz.prog 304 [.str s,.str [42]] h (.bool (qe5 s)) h:=by
 unfold qe5
 by_cases g:1≤s.length
 ·have k1:((1:Int)≤s.length)=True:=eqt om;have k2:((s.length:Int)-1).toNat=s.length-1:=by omega
  have k3:(0≤(s.length:Int)-1)=True:=eqt om;have k4:((s.length:Int)-1≤s.length)=True:=eqt om;have k5:List.take (s.length-(s.length-1)) (List.drop (s.length-1) s)=s.drop (s.length-1):=ltl (by simp);rw[dqt g];refine acO qpg ?_;simp (disch:=omega) only[qqc,qrC,k1,k2,k3,k4,k5,go_sem]
  repeat' first
   |(apply qc;exact rvk;simp only[go_sem];exact qi)
   |with_reducible apply aiA
  all_goals try exact clz
 ·have k1:((1:Int)≤s.length)=False:=eqf om;rw[dqf g];refine acO qpg ?_;simp (disch:=omega) only[qqc,qrC,k1,go_sem]
  repeat' first
   |(apply qc;exact rvk;simp only[go_sem];exact qi)
theorem qqz(s:Str)(h:List AObj)(hs:s.length≤1000000000):ACalls Tryz.prog 284 [.str s,.str [42]] h (.tup [.str (if qe5 s=true then s.take (s.length-1) else s),.bool (qe5 s)]) h:=by
 have c1:=fun h=>qpl s h hs
 cases g:qe5 s with
 |true=>
  rw[g]at c1;have g1:1≤s.length:=by unfold qe5 at g;simp at g;omega
  have k2:((s.length:Int)-1).toNat=s.length-1:=by omega
  have k3:(0≤(s.length:Int)-1)=True:=eqt om;have k4:((s.length:Int)-1≤s.length)=True:=eqt om;refine acO qpd ?_;simp (disch:=omega) only[qp9,go_sem]
  repeat' first
   |(refine cA (c1 _) flk ?_;simp (disch:=omega) only[qrC,k2,k3,k4,Nat.sub_zero,go_sem])
   |(apply qc;exact rvk;simp only[go_sem];exact qi)
   |with_reducible apply aiA
  all_goals try exact clz
 |false=>
  rw[g]at c1;refine acO qpd ?_;simp (disch:=omega) only[qp9,go_sem]
  repeat' first
   |(refine cA (c1 _) flk ?_;simp (disch:=omega) only[go_sem])
   |(apply qc;exact rvk;simp only[go_sem];exact qi)
theorem qtY(s:Str)(h:List AObj)(hs:s.length≤1000000000):ACalls Tryz.prog 241 [.str s,.str [42]] h (.tup [.str (if qe5 s=true then s.take (s.length-1) else s),.bool (qe5 s)]) h:=by
 have c1:=fun h=>qqz s h hs
 refine acO quK ?_;simp (disch:=omega) only[qtq,go_sem]
 repeat' first
  |(refine cA (c1 _) flk ?_;simp (disch:=omega) only[go_sem])
  |(apply qc;exact rvk;simp only[go_sem];exact qi)
  |with_reducible apply aiA
 all_goals try exact clz
theorem qom(s:Str)(h:1≤s.length):qe5 s=decide (((s[s.length-1]?).getD 0).toNat=42):=by
 unfold qe5;rw[dqt h,Bool.true_and];have e:s.drop (s.length-1)= [(s[s.length-1]?).getD 0]:=by
  rw[List.drop_eq_getElem_cons (show s.length-1<s.length by omega),jr (show s.length-1<s.length by omega),List.drop_eq_nil_of_le om];rfl
 rw[e];congr 1;simp only[List.cons.injEq,and_true,eq_iff_iff];exact⟨fun h=>by rw[h];rfl,fun h=>UInt8.toNat_inj.1 (by rw[h];rfl)⟩
def qaS(f:Nat→Int):Nat→Nat→Int
 |_,0=>0
 |i,k+1=>if f i≠0 then f i else qaS f (i+1) k
theorem qdG{f:Nat→Int}{n i:Nat}(hi:i≤n)(h: ∀j,j<i→f j=0):qaS f 0 n=qaS f i (n-i):=by
 induction i with
 |zero=>rfl
 |succ i ih=>
  rw[ih om (fun j hj=>h j om),show n-i=(n-(i+1))+1 by omega];simp only[qaS,h i om,ne_eq,not_true_eq_false,if_false]
theorem jB{f:Nat→Int}{n i:Nat}(hi:i<n)(h: ∀j,j<i→f j=0)(hp:f i≠0):qaS f 0 n=f i:=by
 rw[qdG om h,show n-i=(n-i-1)+1 by omega];simp only[qaS];rw[ipo hp]
theorem zI{f:Nat→Int}{n:Nat}(h: ∀j,j<n→f j=0):qaS f 0 n=0:=by
 rw[qdG (nlr n) h,Nat.sub_self];rfl
theorem jU{f:Nat→Int}{n:Nat}:qaS f 0 n=0↔ ∀j,j<n→f j=0:=by
 refine⟨fun h=> ?_,zI⟩;intro j
 induction j using Nat.strongRecOn with
 |_ j ih=>
  intro hj
  by_cases e:f j=0
  ·exact e
  ·rw[jB hj (fun k hk=>ih k hk om) e]at h;exact absurd h e
def qr0(b:Int)(l:List Int)(i:Nat):Int:=if l.getD i 0<0∨b≤l.getD i 0 then 2 else if 0<i∧l.getD i 0≤l.getD (i-1) 0 then 10 else 0
def qw9(b:Int)(l:List Int):Int:=qaS (qr0 b l) 0 l.length
structure Gr where
 name:Str
 mem:List Int
 deriving Inhabited
def grC(g:Gr):List AV:= [.str g.name,qq g.mem]
def ql6(gs:List Gr):AV:= .sl gs.length fun i=>grC (gs.getD i default)
def jq(names:List Str)(i:Nat):Int:=if qoc (names.getD i [])=false then 14 else if zH (fun j=>decide (names.getD i []=names.getD j [])) i=true then 7 else 0
def qq8(names:List Str)(gs:List Gr)(i:Nat):Int:=
 if j0 (gs.getD i default).name=false then 14 else if zH (fun j=>decide ((gs.getD i default).name=names.getD j [])) names.length=true then 7 else
  if zH (fun j=>decide ((gs.getD i default).name=(gs.getD j default).name)) i=true then 7 else if (gs.getD i default).mem.length=0 then 5 else qw9 names.length (gs.getD i default).mem
def sgE(names:List Str)(gs:List Gr):Int:=
 if 32<names.length then 4 else if qaS (jq names) 0 names.length≠0 then qaS (jq names) 0 names.length else if 16<gs.length then 4 else qaS (qq8 names gs) 0 gs.length
theorem qx4(n:Nat)(g:Nat→Str)(x:Str)(h:List AObj)(hn:n≤1000000000):ACalls Tryz.prog 117 [.sl n (fun j=> [.str (g j)]),.str x] h (.int .i64 (qbQ (fun j=>decide (x=g j)) n 0)) h:=by
 have:=qx1 qup n (fun j=> .s (g j)) (.s x) h (fun _ _=>rfl) om
 simpa only[At.v,At.s.injEq] using this
theorem qxt(n:Nat)(g:Nat→Str)(x:Str)(h:List AObj)(hn:n≤1000000000):ACalls Tryz.prog 43 [.sl n (fun j=> [.str (g j)]),.str x] h (.bool (zH (fun j=>decide (x=g j)) n)) h:=
 qtX qxJ ⟨rfl,rfl⟩ ⟨rfl,rfl⟩ (qx4 n g x h hn)
end RC
end
section
namespace AF
open Go
theorem Wk.kill{t:List AV}{h:List AObj}{k v:Nat}{ty:TypeId}{cs:List AV}(hk:getO k h=some (.mem v ty cs)):Wk t h t (setO k h (.emp (v+1))):=by
 intro N w σ a H;have hkl:k<σ.length:=by rw[H.hr.len];exact zA hk
 have ho:=jr hkl;obtain⟨m1,_⟩:=H.hr.obj k _ _ hk ho;obtain⟨g1,g2⟩:=H.hr.kill ho;rw[m1]at g1 g2;exact⟨_,⟨g1,H.sz,fun i c x hc hx=>(H.tm i c x hc hx).ext g2,qam g2 H.df⟩,g2⟩
end AF
end
section
open Go Go.Proofs AF HY LN
namespace RC
theorem qgc{p q:Nat→Bool}{n:Nat}(h: ∀i,i<n→p i=q i):zH p n=zH q n:=by
 cases e:zH q n with
 |true=>obtain⟨i,h1,h2⟩:=qv.1 e;exact qv.2 ⟨i,h1,by rw[h i h1,h2]⟩
 |false=>exact qk.2 fun i hi=>by rw[h i hi];exact qk.1 e i hi
def qx9(l:List Int):Nat:=l.foldl (fun a n=>a|||2^n.toNat) 0
def inB(b:Int)(l:List Int):Prop:= ∀i,i<l.length→0≤l.getD i 0∧l.getD i 0<b
theorem qpo(l:List Int): ∀a:Nat,a<2^64→(∀n∈l,0≤n∧n<64)→l.foldl (fun a n=>a|||2^n.toNat) a<2^64∧ ∀i,(l.foldl (fun a n=>a|||2^n.toNat) a).testBit i=(a.testBit i||decide ((i:Int)∈l)):=by
 induction l with
 |nil=>intro a ha _;exact⟨ha,fun i=>by simp⟩
 |cons n l ih=>
  intro a ha hl;have hn:=hl n (by simp);obtain⟨h1,h2⟩:=ih (a|||2^n.toNat) (Nat.or_lt_two_pow ha (Nat.pow_lt_pow_right om om)) (fun m hm=>hl m (by simp[hm]));refine⟨h1,fun i=> ?_⟩;rw[List.foldl_cons,h2 i,Nat.testBit_or,Nat.testBit_two_pow]
  by_cases e:(i:Int)=n
  ·have e':n.toNat=i:=by omega
   simp[e,e']
  ·have e': ¬n.toNat=i:=by omega
   simp[e,e']
theorem qbz{l:List Int}{b:Int}(h:inB b l): ∀n∈l,0≤n∧n<b:=by
 intro n hn;obtain⟨i,hi,e⟩:=List.getElem_of_mem hn
 have:=h i hi
 rw[gdqA,jr hi]at this;rw[←e];exact this
theorem qvG{l:List Int}(h:inB 64 l):qx9 l<2^64:=(qpo l 0 (by decide) (qbz h)).1
theorem qrr{l:List Int}(h:inB 64 l)(i:Nat):(qx9 l).testBit i=decide ((i:Int)∈l):=by
 have:=(qpo l 0 (by decide) (qbz h)).2 i
 rw[Nat.zero_testBit,Bool.false_or]at this;exact this
def qj4(p:Nat→Bool)(k:Nat):List Int:=((List.range k).filter p).map Int.ofNat
def qW(L:List Int):List AV:=L.map fun n=> .int .i64 n
theorem zx(L:List Int):(qW L).length=L.length:=by simp[qW]
theorem qaB(L M:List Int):qW (L++M)=qW L++qW M:=by simp[qW]
theorem qjZ{L:List Int}:qW L= []↔L= []:=by simp[qW]
theorem qaC{L:List Int}{n:Nat}(g:AV→AV)(hg: ∀n,g (.int .i64 n)= .int .i64 n)(hn:n=L.length):VLe (.sl n fun i=>(((qW L).drop i).take 1).map g) (qq L):=by
 subst hn;refine VLe.sl_eq rfl (fun i hi=> ?_);unfold qW;rw[←List.map_drop,List.drop_eq_getElem_cons hi,List.map_cons,List.take_succ_cons,List.take_zero,List.map_cons,List.map_nil,hg,gdqA,jr hi];rfl
theorem qgD(L:List Int):(qq L).flag=true:=rfl
theorem qe7(L:List Int):(qq L).strip=qq L:=rfl
theorem qjK{fz:Nat→Bool}{h:List AObj}{n:Nat}(L:List Int):frz fz h (n+1) (qq L)=qq L:=rfl
theorem qkS{fz:Nat→Bool}{h:List AObj}{n:Nat}(L:List Int):rei fz h (n+1) (qq L)=qq L:=rfl
theorem qjC(L:List Str):(strs L).flag=true:=rfl
theorem qhu(L:List Str):(strs L).strip=strs L:=rfl
theorem qnf{fz:Nat→Bool}{h:List AObj}{n:Nat}(L:List Str):frz fz h (n+1) (strs L)=strs L:=rfl
theorem qn1{fz:Nat→Bool}{h:List AObj}{n:Nat}(L:List Str):rei fz h (n+1) (strs L)=strs L:=rfl
theorem qjA(L:List Gr):(ql6 L).flag=true:=rfl
theorem qhs(L:List Gr):(ql6 L).strip=ql6 L:=rfl
theorem qnd{fz:Nat→Bool}{h:List AObj}{n:Nat}(L:List Gr):frz fz h (n+1) (ql6 L)=ql6 L:=rfl
theorem qn0{fz:Nat→Bool}{h:List AObj}{n:Nat}(L:List Gr):rei fz h (n+1) (ql6 L)=ql6 L:=rfl
attribute [go_sem] qgD qe7 qjK qkS qjC qhu qnf qn1 qjA qhs qnd qn0
def nIx(names:List Str)(s:Str):Int:=qbQ (fun j=>decide (s=names.getD j [])) names.length 0
def gIx(gs:List Gr)(s:Str):Int:=qbQ (fun j=>decide (s=(gs.getD j default).name)) gs.length 0
def qob(names:List Str)(gs:List Gr)(sg:List Str)(i:Nat):Int:=
 if nIx names (sg.getD i [])<0∧gIx gs (sg.getD i [])<0 then 6 else if zH (fun j=>decide (sg.getD i []=sg.getD j [])) i=true then 7 else 0
def els(names:List Str)(gs:List Gr)(s:Str):List Int:=if 0≤nIx names s then [nIx names s] else (gs.getD (gIx gs s).toNat default).mem
def qoM(names:List Str)(gs:List Gr)(sg:List Str):Nat→Nat
 |0=>0
 |i+1=>qoM names gs sg i|||qx9 (els names gs (sg.getD i []))
def qgz(names:List Str)(gs:List Gr)(sg:List Str):Int:=if sgE names gs≠0 then 1 else qaS (qob names gs sg) 0 sg.length
def qb5(names:List Str)(gs:List Gr)(sg:List Str):List Int:=if qgz names gs sg=0 then qj4 (qoM names gs sg sg.length).testBit 64 else []
theorem qr1{b:Int}{l:List Int}(h:qw9 b l=0):inB b l∧ ∀i,0<i→i<l.length→l.getD (i-1) 0<l.getD i 0:=by
 unfold qw9 at h;rw[jU]at h;refine⟨fun i hi=> ?_,fun i h0 hi=> ?_⟩
 ·have:=h i hi
  unfold qr0 at this;split at this
  ·cases this
  ·rename_i hc;omega
 ·have:=h i hi
  unfold qr0 at this;split at this
  ·cases this
  ·split at this
   ·cases this
   ·rename_i hc;omega
structure qw4 (names:List Str) (gs:List Gr):Prop where
 n32:names.length≤32
 g16:gs.length≤16
 na: ∀i,i<names.length→jq names i=0
 gr: ∀i,i<gs.length→qq8 names gs i=0
theorem qpv{names:List Str}{gs:List Gr}(h:sgE names gs=0):qw4 names gs:=by
 unfold sgE at h;split at h
 ·cases h
 split at h
 ·rename_i h1;exact absurd h h1
 split at h
 ·cases h
 rename_i h1 h2 h3;exact⟨om,om,jU.1 (by simpa using h2),jU.1 h⟩
theorem qq9{names:List Str}{gs:List Gr}(h:qw4 names gs){i:Nat}(hi:i<gs.length):qw9 names.length (gs.getD i default).mem=0:=by
 have:=h.gr i hi
 unfold qq8 at this
 repeat' split at this
 all_goals first|(cases this;done)|exact this
theorem qj7(names:List Str)(s:Str):(∃k:Nat,k<names.length∧names.getD k []=s∧nIx names s=k)∨((∀j,j<names.length→s≠names.getD j [])∧nIx names s= -1):=by
 rcases zY (fun j=>decide (s=names.getD j [])) names.length with⟨i,h1,h2,_,h4⟩|⟨h1,h2⟩
 ·exact .inl ⟨i,h1,(of_decide_eq_true h2).symm,h4⟩
 ·exact .inr ⟨fun j hj=>of_decide_eq_false (h1 j hj),h2⟩
theorem qjM(gs:List Gr)(s:Str):(∃k:Nat,k<gs.length∧(gs.getD k default).name=s∧gIx gs s=k)∨((∀j,j<gs.length→s≠(gs.getD j default).name)∧gIx gs s= -1):=by
 rcases zY (fun j=>decide (s=(gs.getD j default).name)) gs.length with⟨i,h1,h2,_,h4⟩|⟨h1,h2⟩
 ·exact .inl ⟨i,h1,(of_decide_eq_true h2).symm,h4⟩
 ·exact .inr ⟨fun j hj=>of_decide_eq_false (h1 j hj),h2⟩
theorem qjn{names:List Str}{gs:List Gr}{s:Str}(h:qw4 names gs)(hf: ¬(nIx names s<0∧gIx gs s<0)):inB names.length (els names gs s):=by
 unfold els;rcases qj7 names s with⟨k,h1,_,h3⟩|⟨_,h3⟩
 ·rw[h3,ipo om];intro i hi
  have:i=0:=by simpa using hi
  subst this;simp only[List.getD_cons_zero];omega
 ·rw[h3,ine om];rcases qjM gs s with⟨k,g1,_,g3⟩|⟨_,g3⟩
  ·rw[g3,itn];exact (qr1 (qq9 h g1)).1
  ·exact absurd ⟨om,om⟩ hf
theorem qfH{b c:Int}{l:List Int}(h:inB b l)(hbc:b≤c):inB c l:=fun i hi=>⟨(h i hi).1,by have:=(h i hi).2;omega⟩
theorem qpI{names:List Str}{gs:List Gr}{sg:List Str}(h:qw4 names gs): ∀ {i:Nat},(∀j,j<i→qob names gs sg j=0)→qoM names gs sg i<2^64∧ ∀k,(qoM names gs sg i).testBit k=decide (∃j,j<i∧(k:Int)∈els names gs (sg.getD j [])):=by
 intro i
 induction i with
 |zero=>intro _;exact⟨Nat.two_pow_pos 64,fun k=>by simp[qoM]⟩
 |succ i ih=>
  intro hz;obtain⟨h1,h2⟩:=ih (fun j hj=>hz j om);have h3: ¬(nIx names (sg.getD i [])<0∧gIx gs (sg.getD i [])<0):=by
   intro hc
   have:=hz i om
   unfold qob at this;rw[ipo hc]at this;cases this
  have h4:inB 64 (els names gs (sg.getD i [])):=qfH (qjn h h3) (by have:=h.n32;omega);refine⟨Nat.or_lt_two_pow h1 (qvG h4),fun k=> ?_⟩;unfold qoM;rw[Nat.testBit_or,h2 k,qrr h4 k,←Bool.decide_or];refine decide_eq_decide.2 ⟨?_,?_⟩
  ·rintro (⟨j,hj,hm⟩|hm)
   ·exact⟨j,om,hm⟩
   ·exact⟨i,om,hm⟩
  ·rintro⟨j,hj,hm⟩
   by_cases e:j=i
   ·subst e;exact .inr hm
   ·exact .inl ⟨j,om,hm⟩
end RC
end
section
open Go Go.Proofs AF HY
namespace LN
def qoI (w : World) : Prop := Lib.TabIs Tryz.prog w "internal/strconv.uint64pow10" .u64 Lib.pow10Tab
def qsS (w : World) : Prop := (∃ tp p, w.var? Tryz.prog "strconv.ErrSyntax" = some #[.iface tp p]) ∧ ∃ tp p, w.var? Tryz.prog "strconv.ErrRange" = some #[.iface tp p]
def ky(Q:World→Prop)(h:List AObj):Prop:= ∃(k:Nat) (bs:List Nat) (G:World→Prop),h[k]? =some (.pin bs G)∧ ∀w,G w→Q w
theorem ky.app{Q:World→Prop}{h:List AObj}(hp:ky Q h)(l:List AObj):ky Q (h++l):=by
 obtain⟨k,bs,G,h1,h2⟩:=hp;exact⟨k,bs,G,by rw[List.getElem?_append_left (lgs.1 h1).1];exact h1,h2⟩
theorem ky.mono{Q Q':World→Prop}{h:List AObj}(hp:ky Q h)(hq: ∀w,Q w→Q' w):ky Q' h:=by
 obtain⟨k,bs,G,h1,h2⟩:=hp;exact⟨k,bs,G,h1,fun w hw=>hq w (h2 w hw)⟩
theorem ky.of{Q:World→Prop}{h:List AObj}{w:World}{σ:List OB}(hp:ky Q h)(H:HR w σ h):Q w:=by
 obtain⟨k,bs,G,h1,h2⟩:=hp;exact h2 w (qvQ H h1)
theorem t48(n:Int)(h:List AObj)(hp:ky qoI h)(h0: -9223372036854775808≤n)(h1:n≤9223372036854775807):ACalls Tryz.prog 86 [.int .i64 n] h (.str (Lib.itoa n)) h:=by
 refine⟨qsN Tryz.func86 (by kernel_rfl) (by kernel_rfl),fun w σ xs H hv=> ?_⟩;obtain⟨x,rfl,hx⟩:=hv.one;rw[qV hx];refine (callsIn_wide.2 (Any.strconv_Itoa Tryz.laysM171 n h0 h1 w (hp.of H))).mono ?_;rintro e w' ⟨rfl,k,os,rfl⟩;obtain⟨g1,g2⟩:=Ext.ofBelow H (Lib.below_grow w.heap.size w (nlr _) k os);exact⟨_,σ,rfl,g1,.imm .str,g2⟩
def qs1(s:List UInt8):Int:=
 match Lib.atoiAll s with
 | .ok _=>0
 | .range=>Lib.atoiSat s
 |_=>0
def qpL(s:List UInt8):AV:=
 match Lib.atoiAll s with
 | .ok v=> .tup [.int .i64 v,.nilif]
 |_=> .tup [.int .i64 (qs1 s),.ifc]
theorem t50(s:List UInt8)(h:List AObj)(hp:ky qsS h)(hl:s.length≤281474976710656):ACalls Tryz.prog 291 [.str s] h (qpL s) h:=by
 refine⟨qsN Tryz.func291 (by kernel_rfl) (by kernel_rfl),fun w σ xs H hv=> ?_⟩;obtain⟨x,rfl,hx⟩:=hv.one;rw[z7 hx];have hsz:(⟨s.toArray⟩:ByteArray).size≤281474976710656:=by simpa[ByteArray.size] using hl
 obtain⟨⟨t1,p1,e1⟩,t2,p2,e2⟩:=hp.of H;unfold qpL qs1;have hd:(⟨s.toArray⟩:ByteArray).data.toList=s:=rfl;cases hs:Lib.atoiAll s
 ·rename_i v;refine (callsIn_wide.2 (Any.strconv_Atoi_ok Tryz.laysC172 ⟨s.toArray⟩ om v (by rw[hd];exact hs) w)).mono ?_;rintro e w' ⟨rfl,hw⟩;have hb:Go.RowKit.Below w.heap.size w w':=by
   rcases hw with rfl|⟨t,rfl⟩
   ·exact Go.RowKit.Below.refl _ _
   ·exact Lib.bytesWorld_below _ _ _
  obtain⟨g1,g2⟩:=Ext.ofBelow H hb;refine⟨_,σ,rfl,g1,.imm (.tup rfl (fun i c y hc hy=> ?_)),g2⟩
  match i with
  |0=>simp at hc hy;subst hc hy;exact .int
  |1=>simp at hc hy;subst hc hy;exact .nilif
  |i+2=>simp at hc
 ·refine (callsIn_wide.2 (Any.strconv_Atoi_syntax_var Tryz.laysC172 ⟨s.toArray⟩ hsz (by rw[hd];exact hs) t1 p1 w e1)).mono ?_;rintro e w' ⟨N,rfl,_,_,hb⟩;obtain⟨g1,g2⟩:=Ext.ofBelow H hb;refine⟨_,σ,rfl,g1,.imm (.tup rfl (fun i c y hc hy=> ?_)),g2⟩
  match i with
  |0=>simp at hc hy;subst hc hy;exact .int
  |1=>simp at hc hy;subst hc hy;exact .ifc
  |i+2=>simp at hc
 ·refine (callsIn_wide.2 (Any.strconv_Atoi_range_var Tryz.laysC172 ⟨s.toArray⟩ hsz (by rw[hd];exact hs) t2 p2 w e2)).mono ?_;rintro e w' ⟨N,rfl,_,_,hb⟩;obtain⟨g1,g2⟩:=Ext.ofBelow H hb;refine⟨_,σ,rfl,g1,.imm (.tup rfl (fun i c y hc hy=> ?_)),g2⟩
  match i with
  |0=>simp at hc hy;subst hc hy;exact .int
  |1=>simp at hc hy;subst hc hy;exact .ifc
  |i+2=>simp at hc
theorem qks: ∀(l r:List UInt8) (acc:Nat),Lib.parseUint10 acc (l++r)=match Lib.parseUint10 acc l with
  | .ok v=>Lib.parseUint10 v r
  |e=>e:=by
 intro l
 induction l with
 |nil=>intro r acc;rfl
 |cons c l ih=>
  intro r acc;rw[lca,Lib.parseUint10,Lib.parseUint10]
  by_cases h1:48≤c.toNat∧c.toNat≤57
  ·rw[ipo h1,ipo h1]
   by_cases h2:1844674407370955162≤acc
   ·rw[ipo h2,ipo h2]
   ·rw[ine h2,ine h2]
    by_cases h3:18446744073709551616≤acc*10+(c.toNat-48)
    ·rw[ipo h3,ipo h3]
    ·rw[ine h3,ine h3];exact ih r _
  ·rw[ine h1,ine h1]
theorem qcP{d:Nat}(h:d<10):(UInt8.ofNat (48+d)).toNat=48+d:=by
 rw[UInt8.toNat_ofNat'];omega
theorem qkt: ∀u,u<1000000000→Lib.parseUint10 0 (Lib.decDigits u)= .ok u:=by
 intro u
 induction u using Nat.strongRecOn with
 |_ u ih=>
  intro hu
  by_cases h:u<10
  ·rw[Lib.decDigits,dif_pos h,Lib.parseUint10,qcP h,ipo om,ine om,ine om,Lib.parseUint10];congr 1;omega
  ·rw[Lib.decDigits,dif_neg h,qks,ih (u/10) om om];simp only;rw[Lib.parseUint10,qcP om,ipo om,ine om,ine om,Lib.parseUint10];congr 1;omega
theorem qgv: ∀u,∀c∈Lib.decDigits u,48≤c.toNat∧c.toNat≤57:=by
 intro u
 induction u using Nat.strongRecOn with
 |_ u ih=>
  intro c hc
  by_cases h:u<10
  ·rw[Lib.decDigits,dif_pos h,List.mem_singleton]at hc;subst hc;rw[qcP h];omega
  ·rw[Lib.decDigits,dif_neg h]at hc;rcases List.mem_append.1 hc with hc|hc
   ·exact ih (u/10) om c hc
   ·rw[List.mem_singleton]at hc;subst hc;rw[qcP om];omega
theorem qt2(u:Nat):Lib.decDigits u≠ []:=by
 intro h
 have:=Lib.decDigits_length u
 have:=Lib.nDigits_pos u
 rw[h]at*;simp at*;omega
theorem qhS{n:Int}(h0:0≤n)(h1:n<1000000000):Lib.atoiAll (Lib.itoa n)= .ok n:=by
 obtain⟨u,rfl⟩: ∃u:Nat,n=u:=⟨n.toNat,om⟩
 rw[Lib.itoa_nonneg];have hd:=qgv u;have hp:=qkt u om;have hne:=qt2 u;cases hl:Lib.decDigits u with
 |nil=>exact absurd hl hne
 |cons c r=>
  rw[hl]at hd hp;have hc:=hd c (List.mem_cons_self ..);unfold Lib.atoiAll;simp only;rw[ine (show¬(c.toNat=43∨c.toNat=45) by omega)];unfold Lib.parseMag;rw[ine (by simp),hp];simp only;rw[ine om,ine om,ine om]
end LN
end
section
open Go Go.Proofs AF HY LN
namespace RC
theorem qmi{s:Str}{v:Int}(h:Lib.atoiAll s= .ok v): -9223372036854775808≤v∧v≤9223372036854775807:=by
 unfold Lib.atoiAll at h;split at h
 ·cases h
 ·simp only at h;split at h
  ·cases h
  ·cases h
  ·split at h
   ·cases h
   ·split at h
    ·cases h
    ·rename_i h1 h2;cases h;split
     ·rename_i h3;have:=mt (And.intro h3) h2;omega
     ·rename_i h3;have:=mt (And.intro h3) h1;omega
theorem qeM{k:Nat}(h:k≤64):(Lib.itoa (k:Int)).length≤9:=by
 rw[Lib.itoa_nonneg]
 by_cases g:k<10
 ·rw[Lib.decDigits,dif_pos g];simp
 ·rw[Lib.decDigits,dif_neg g,Lib.decDigits,dif_pos (show k/10<10 by omega)];simp
def SG(w:World):Prop:=qoI w∧qsS w
theorem SG.pow{h:List AObj}(hp:ky SG h):ky qoI h:=hp.mono fun _ h=>h.1
theorem SG.err{h:List AObj}(hp:ky SG h):ky qsS h:=hp.mono fun _ h=>h.2
def pre(s:Str):Bool:=decide (1≤s.length)&&decide (s.take 1= [91])
def qek(s:Str):Bool:=(List.range 64).any fun k=>decide (s=91::(Lib.itoa ((k+1:Nat):Int)++ [93]))
def qyK(s:Str):Bool:=kT s||(if s.length=1 then decide (kind (ch s 0)=5)||decide (kind (ch s 0)=4) else qek s)
def wE(s:Str):Int:=if qyK s=true then 0 else 11
def ql4(L:List Str):Int:=qaS (fun i=>wE (L.getD i [])) 0 L.length
theorem qy3(a b c:Str)(n f g:Int)(d:Str)(h:List AObj)(hf:0≤f)(hf2:f≤31)(hg:0<g):ACalls Tryz.prog 255 [.agg [.str a,.str b,.str c,.int .i64 n,.int .i64 f,.str d],.int .i64 g] h (.bool (decide (f/g%2=1))) h:=by
 have k1:(g=0)=False:=eqf om;have k2:0≤f/g:=Int.ediv_nonneg hf om;have k3:f/g≤f:=Int.ediv_le_self _ hf;refine acO quR ?_;simp (disch:=omega) only[qtv,go_sem]
 repeat' first
  |(apply qa;exact rvk;simp only[go_sem];exact qi)
  |with_reducible apply aiA
 all_goals try exact clz
theorem qzA(s:Str)(h:List AObj)(hs:s.length≤1000000000)(hp:ky SG h):ACalls Tryz.prog 256 [.str s] h (.bool (qek s)) h:=by
 refine acO quS ?_;simp (disch:=omega) only[qtw,go_sem];refine qn (T:=fun i:Nat=>qM 14 [(0,.str s),(3,.int .i64 ((i+1:Nat):Int))]) (H:=fun _=>h) (inv:=fun i=>i≤64∧ ∀j,j<i→s≠91::(Lib.itoa ((j+1:Nat):Int)++ [93])) (m:=fun i=>64-i) 0 ⟨nzl _,fun j hj=>absurd hj (nnz j)⟩ (Wk.temps ?_) ?_
 ·(simp only[go_sem,qh,qe,qb,qg];try (repeat' first|(with_reducible apply aiA)|(apply qf;omega)|(apply qd;rfl)|exact qi))
 rintro i ⟨i1,i2⟩ K hK;have ec:((i+1:Nat):Int)=(i:Int)+1:=by omega
 by_cases hi:i<64
 ·have k1:((i:Int)+1≤64)=True:=eqt om;have c181:=t48 ((i:Int)+1) h (SG.pow hp) om om;have hl:(Lib.itoa ((i:Int)+1)).length≤9:=by rw[←ec];exact qeM om
  obtain⟨t,ht⟩: ∃t,t=Lib.itoa ((i:Int)+1):=⟨_,rfl⟩
  rw[←ht]at c181 hl
  by_cases g:s=91::(t++ [93])
  ·have q1:(s=91::(t++ [93]))=True:=eqt g;have hV:qek s=true:=by
    unfold qek;rw[List.any_eq_true];exact⟨i,by simpa using hi,dqt (by rw[ec,←ht];exact g)⟩
   rw[hV];simp (disch:=omega) only[ec,k1,go_sem]
   repeat' first
    |(refine cA (c181) flk ?_;simp (disch:=omega) only[q1,go_sem])
    |(apply qc;exact rvk;simp only[go_sem];exact qi)
    |with_reducible apply aiA
   all_goals try exact clz
  ·have q1:(s=91::(t++ [93]))=False:=eqf g;simp (disch:=omega) only[ec,k1,go_sem]
   repeat' first
    |(refine cA (c181) flk ?_;simp (disch:=omega) only[q1,go_sem])
    |with_reducible apply aiA
   all_goals try exact clz
   refine hK _ _ (i+1) ⟨hi,fun j hj=> ?_⟩ om (Wk.temps ?_)
   ·by_cases e':j=i
    ·subst e';rw[ec,←ht];exact g
    ·exact i2 j om
   ·(simp only[go_sem,qh,qe,qb,qg];try (repeat' first|(with_reducible apply aiA)|(apply qf;omega)|(apply qd;rfl)|exact qi))
 ·have k1:((i:Int)+1≤64)=False:=eqf om;have hV:qek s=false:=by
   cases e:qek s with
   |false=>rfl
   |true=>
    unfold qek at e;rw[List.any_eq_true]at e;obtain⟨j,hj,e⟩:=e;exact absurd (of_decide_eq_true e) (i2 j (by have:j<64:=(by simpa using hj);omega))
  rw[hV];simp (disch:=omega) only[ec,k1,go_sem]
  repeat' first
   |(apply qc;exact rvk;simp only[go_sem];exact qi)
def qoP(C L:List Int):List Int:=L.foldl (fun C n=>C.set n.toNat (C.getD n.toNat 0+1)) C
theorem qmr(L:List Int): ∀C:List Int,(qoP C L).length=C.length:=by
 induction L with
 |nil=>intro C;rfl
 |cons n L ih=>intro C;show (qoP (C.set _ _) L).length=_;rw[ih];simp
theorem qjX{C:List Int}{n:Nat}(h:n<C.length):(qW C)[n]? =some (.int .i64 (C.getD n 0)):=by
 unfold qW;rw[List.getElem?_map,jr h,gdqA,jr h];rfl
theorem qmS{names:List Str}{gs:List Gr}{sg:List Str}:inB names.length (qb5 names gs sg)∧ ∀i,0<i→i<(qb5 names gs sg).length→(qb5 names gs sg).getD (i-1) 0<(qb5 names gs sg).getD i 0:=by
 unfold qb5;split
 ·rename_i h;have h':=h;unfold qgz at h';split at h'
  ·cases h'
  rename_i h1;have hok:=qpv (by simpa using h1);have hz:=jU.1 h';obtain⟨m1,m2⟩:=qpI hok hz;have hsort:(qj4 (qoM names gs sg sg.length).testBit 64).Pairwise (· < ·):=by
   unfold qj4;rw[List.pairwise_map];exact (List.pairwise_lt_range.filter _).imp (fun h=>Int.ofNat_lt.2 h)
  have hmem: ∀n∈qj4 (qoM names gs sg sg.length).testBit 64,0≤n∧n<names.length:=by
   intro n hn;unfold qj4 at hn;obtain⟨k,hk,rfl⟩:=List.mem_map.1 hn;have hk2:=(List.mem_filter.1 hk).2;rw[m2 k]at hk2;obtain⟨j,hj,hm⟩:=of_decide_eq_true hk2;have hf: ¬(nIx names (sg.getD j [])<0∧gIx gs (sg.getD j [])<0):=by
    intro hc
    have:=hz j hj
    unfold qob at this;rw[ipo hc]at this;cases this
   exact qbz (qjn hok hf) _ hm
  refine⟨fun i hi=> ?_,fun i h0 hi=> ?_⟩
  ·rw[gdqA,jr hi];exact hmem _ (List.getElem_mem hi)
  ·rw[gdqA,gdqA,jr hi,jr (show i-1<_ by omega)];exact List.pairwise_iff_getElem.1 hsort (i-1) i om hi om
 ·exact⟨fun i hi=>absurd hi (nnz i),fun i _ hi=>absurd hi (nnz i)⟩
theorem qmT{names:List Str}{gs:List Gr}{sg:List Str}:inB 32 (qb5 names gs sg):=by
 by_cases h:qgz names gs sg=0
 ·have h':=h;unfold qgz at h';split at h'
  ·cases h'
  rename_i h1;have hok:=qpv (by simpa using h1);exact qfH qmS.1 (by have:=hok.n32;omega)
 ·have:qb5 names gs sg= []:=by unfold qb5;rw[ine h]
  rw[this];exact fun i hi=>absurd hi (nnz i)
structure Va where
 words:List Str
 sigla:List Str
 deriving Inhabited
structure En where
 layer:Int
 frm:Int
 to:Int
 pos:Bool
 sup:List Str
 vars:List Va
 deriving Inhabited
def vaC(v:Va):List AV:= [strs v.words,strs v.sigla]
def qpA(vs:List Va):AV:= .sl vs.length fun i=>vaC (vs.getD i default)
def enC(e:En):List AV:= [.int .i64 e.layer,.int .i64 e.frm,.int .i64 e.to,.bool e.pos,strs e.sup,qpA e.vars]
def ql5(l:List En):AV:= .sl l.length fun i=>enC (l.getD i default)
theorem qjD(L:List Va):(qpA L).flag=true:=rfl
theorem qhv(L:List Va):(qpA L).strip=qpA L:=rfl
theorem qng{fz:Nat→Bool}{h:List AObj}{n:Nat}(L:List Va):frz fz h (n+1) (qpA L)=qpA L:=rfl
theorem qn2{fz:Nat→Bool}{h:List AObj}{n:Nat}(L:List Va):rei fz h (n+1) (qpA L)=qpA L:=rfl
theorem qjz(L:List En):(ql5 L).flag=true:=rfl
theorem qhr(L:List En):(ql5 L).strip=ql5 L:=rfl
theorem qnc{fz:Nat→Bool}{h:List AObj}{n:Nat}(L:List En):frz fz h (n+1) (ql5 L)=ql5 L:=rfl
theorem qnZ{fz:Nat→Bool}{h:List AObj}{n:Nat}(L:List En):rei fz h (n+1) (ql5 L)=ql5 L:=rfl
attribute [go_sem] qjD qhv qng qn2 qjz qhr qnc qnZ
theorem qxE(ws:List Str)(m:Nat)(k:Nat→Str)(h:List AObj)(h1:ws.length≤1000000000)(h2:m≤1000000000):
  ACalls Tryz.prog 53 [strs ws,.sl m (fun j=> [.str (k j)])] h (.bool (decide (ws.length=m∧ ∀i,i<ws.length→ws.getD i []=k i))) h:=by
 unfold strs
 have:=qxC qxK ws.length m (fun j=> .s (ws.getD j [])) (fun j=> .s (k j)) h (fun _ _ _=>rfl) om om
 simpa only[At.v,At.s.injEq] using this
theorem jg{α:Type}[Inhabited α]{a b:List α}(d:α):a=b↔a.length=b.length∧ ∀i,i<a.length→a.getD i d=b.getD i d:=by
 constructor
 ·rintro rfl;exact⟨rfl,fun _ _=>rfl⟩
 ·rintro⟨h1,h2⟩;apply List.ext_getElem h1;intro i h3 h4
  have:=h2 i h3
  rw[gdqA,gdqA,jr h3,jr h4]at this;exact this
def ql9(t:List Str)(f g:Nat):List Str:=(t.drop f).take (g-f)
theorem qow{t:List Str}{f g:Nat}(h1:f≤g)(h2:g≤t.length):(ql9 t f g).length=g-f:=by unfold ql9;simp;omega
def qoE(t:List Str)(e:En)(i:Nat):Int:=
 if ql4 (e.vars.getD i default).words≠0 then 11 else if (e.vars.getD i default).words=ql9 t e.frm.toNat e.to.toNat then 9 else
  if zH (fun j=>decide ((e.vars.getD i default).words=(e.vars.getD j default).words)) i=true then 7 else if (e.vars.getD i default).sigla.length=0 then 5 else 0
def cnt(names:List Str)(gs:List Gr)(e:En):Nat→List Int
 |0=>qoP (List.replicate 32 0) (qb5 names gs e.sup)
 |i+1=>qoP (cnt names gs e i) (qb5 names gs (e.vars.getD i default).sigla)
def qsb(C:List Int):Bool:=zH (fun i=>decide (1<C.getD i 0)) C.length
def qsQ(t:List Str)(e:En):Prop:=e.layer<0∨16≤e.layer∨e.frm<0∨e.to<e.frm∨(t.length:Int)<e.to
instance (t:List Str) (e:En):Decidable (qsQ t e):=by unfold qsQ;infer_instance
def qxp(names:List Str)(gs:List Gr)(t:List Str)(e:En):Int:=
 if sgE names gs≠0 then 1 else if 4096<t.length then 4 else if ql4 t≠0 then 11 else if qsQ t e then 2 else
  if 0<e.sup.length∧e.pos=false then 1 else if e.vars.length=0 then 5 else
   if qaS (qoE t e) 0 e.vars.length≠0 then qaS (qoE t e) 0 e.vars.length else
    if qgz names gs e.sup≠0 then qgz names gs e.sup else
     if qaS (fun i=>qgz names gs (e.vars.getD i default).sigla) 0 e.vars.length≠0 then qaS (fun i=>qgz names gs (e.vars.getD i default).sigla) 0 e.vars.length else
      if qsb (cnt names gs e e.vars.length)=true then 17 else 0
theorem fmI(l:List Int):List.flatMap (fun i=> [AV.int .i64 (l.getD i 0)]) (List.range l.length)=qW l:=by
 induction l with
 |nil=>rfl
 |cons a l ih=>
  rw[lco,List.range_succ_eq_map,List.flatMap_cons,List.flatMap_map];show AV.int .i64 a::List.flatMap (fun i=> [AV.int .i64 (l.getD i 0)]) (List.range l.length)=_;rw[ih];rfl
theorem qnv{p:Nat→Bool}{n:Nat}{x:Int}:x∈qj4 p n↔ ∃k:Nat,k<n∧p k=true∧x=k:=by
 unfold qj4;constructor
 ·intro h;obtain⟨k,hk,rfl⟩:=List.mem_map.1 h;obtain⟨h1,h2⟩:=List.mem_filter.1 hk;exact⟨k,List.mem_range.1 h1,h2,rfl⟩
 ·rintro⟨k,h1,h2,rfl⟩;exact List.mem_map.2 ⟨k,List.mem_filter.2 ⟨List.mem_range.2 h1,h2⟩,rfl⟩
theorem smw(ws:List Str)(m:Nat)(k:Nat→Str)(h:List AObj)(h1:ws.length≤1000000000)(h2:m≤1000000000):
  ACalls Tryz.prog 103 [strs ws,.sl m (fun j=> [.str (k j)])] h (.bool (decide (ws.length=m∧ ∀i,i<ws.length→ws.getD i []=k i))) h:=by
 obtain⟨R,hR⟩: ∃R,R=decide (ws.length=m∧ ∀i,i<ws.length→ws.getD i []=k i):=⟨_,rfl⟩
 rw[←hR]
 by_cases g:ws.length=m
 ·have k0:((ws.length:Int)=m)=True:=eqt om;refine acO qoV ?_;simp (disch:=omega) only[qpT,strs,k0,go_sem];refine qn (T:=fun i:Nat=>qM 26 [(0,strs ws),(1,.sl m (fun j=> [.str (k j)])),(5,.int .i64 i)]) (H:=fun _=>h) (inv:=fun i=>i≤ws.length∧ ∀j,j<i→ws.getD j []=k j) (m:=fun i=>ws.length-i) 0 ⟨nzl _,fun j hj=>by omega⟩ (Wk.temps ?_) ?_
  ·(simp only[strs,go_sem,qh,qe,qb,qg];try (repeat' first|(with_reducible apply aiA)|(apply qf;omega)|(apply qd;rfl)|exact qi))
  rintro i ⟨i1,i2⟩ K hK
  by_cases hi:i<ws.length
  ·have k1:((i:Int)<ws.length)=True:=eqt om;have k3:((i:Int)<m)=True:=eqt om;obtain⟨x,hx⟩: ∃x,x=ws.getD i []:=⟨_,rfl⟩
   have ex:=hx.symm
   by_cases e:x=k i
   ·have k2:(x=k i)=True:=eqt e;simp (disch:=omega) only[strs,k1,k2,k3,ex,go_sem]
    repeat' first
     |with_reducible apply aiA
    all_goals try exact clz
    refine hK _ _ (i+1) ⟨hi,fun j hj=> ?_⟩ om (Wk.temps ?_)
    ·by_cases e':j=i
     ·subst e';rw[ex];exact e
     ·exact i2 j om
    ·(simp only[strs,go_sem,qh,qe,qb,qg];try (repeat' first|(with_reducible apply aiA)|(apply qf;omega)|(apply qd;rfl)|exact qi))
   ·have k2:(x=k i)=False:=eqf e;have hV:R=false:=by rw[hR];exact dqf fun hc=>e (by rw[←ex];exact hc.2 i hi)
    rw[hV];simp (disch:=omega) only[strs,k1,k2,k3,ex,go_sem]
    repeat' first
     |(apply qc;exact rvk;simp only[go_sem];exact qi)
     |with_reducible apply aiA
    all_goals try exact clz
  ·have k1:((i:Int)<ws.length)=False:=eqf om;have hV:R=true:=by rw[hR];exact dqt ⟨g,fun j hj=>i2 j om⟩
   rw[hV];simp (disch:=omega) only[strs,k1,go_sem]
   repeat' first
    |(apply qc;exact rvk;simp only[go_sem];exact qi)
 ·have k0:((ws.length:Int)=m)=False:=eqf om;have hV:R=false:=by rw[hR];exact dqf fun hc=>g hc.1
  rw[hV];refine acO qoV ?_;simp (disch:=omega) only[qpT,strs,k0,go_sem]
  repeat' first
   |(apply qc;exact rvk;simp only[go_sem];exact qi)
theorem qym(a b:List Str)(h:List AObj)(h1:a.length≤1000000000)(h2:b.length≤1000000000):
  ACalls Tryz.prog 103 [strs a,strs b] h (.bool (decide (a=b))) h:=by
 have c:=smw a b.length (fun j=>b.getD j []) h h1 h2;have e:decide (a.length=b.length∧ ∀i,i<a.length→a.getD i []=b.getD i [])=decide (a=b):=decide_eq_decide.2 (jg ([]:Str)).symm;rw[e]at c;exact c
def qhO(names:List Str)(gs:List Gr)(e:En):Nat→List Int×Bool
 |0=>(qb5 names gs e.sup,false)
 |i+1=>(qj4 (fun k=>decide ((k:Int)∈(qhO names gs e i).1)||decide ((k:Int)∈qb5 names gs (e.vars.getD i default).sigla)) 64,(qhO names gs e i).2||(qhO names gs e i).1.any fun x=>decide (x∈qb5 names gs (e.vars.getD i default).sigla))
theorem qmc(names:List Str)(gs:List Gr)(e:En)(i:Nat):qhO names gs e (i+1)=(qj4 (fun k=>decide ((k:Int)∈(qhO names gs e i).1)||decide ((k:Int)∈qb5 names gs (e.vars.getD i default).sigla)) 64,(qhO names gs e i).2||(qhO names gs e i).1.any fun x=>decide (x∈qb5 names gs (e.vars.getD i default).sigla)):=rfl
theorem qmq(L:List Int): ∀(C:List Int) (j:Nat),L.Nodup→(∀x∈L,0≤x∧x<C.length)→j<C.length→(qoP C L).getD j 0=C.getD j 0+if (j:Int)∈L then 1 else 0:=by
 induction L with
 |nil=>intro C j _ _ _;simp[qoP]
 |cons n L ih=>
  intro C j hn hL hj;obtain⟨h1,h2⟩:=List.nodup_cons.1 hn;have hb:=hL n (by simp);show (qoP (C.set n.toNat (C.getD n.toNat 0+1)) L).getD j 0=_;rw[ih _ j h2 (fun x hx=>by rw[List.length_set];exact hL x (by simp[hx])) (by rw[List.length_set];exact hj)]
  by_cases e:(j:Int)=n
  ·have e2:n.toNat=j:=by omega
   have e3: ¬(j:Int)∈L:=by rw[e];exact h1
   rw[ine e3,ipo (by rw[e];simp),e2]
   have:(C.set j (C.getD j 0+1)).getD j 0=C.getD j 0+1:=by
    rw[gdqA,List.getElem?_set_self hj];rfl
   rw[this];omega
  ·have e2: ¬n.toNat=j:=by omega
   have:(C.set n.toNat (C.getD n.toNat 0+1)).getD j 0=C.getD j 0:=by
    rw[gdqA,List.getElem?_set_ne e2,←gdqA]
   rw[this];congr 1;simp[e]
theorem qgR(p:Nat→Bool)(n:Nat):(qj4 p n).Nodup:=by
 unfold qj4;rw[List.Nodup,List.pairwise_map];refine List.Pairwise.imp ?_ (List.Pairwise.filter _ List.nodup_range);intro a b hab hc;exact hab (by have hx:(a:Int)=(b:Int):=hc;omega)
theorem qct(names:List Str)(gs:List Gr)(sg:List Str):(qb5 names gs sg).Nodup:=by
 unfold qb5;split
 ·exact qgR _ _
 ·exact List.nodup_nil
structure qw3 (A:List Int) (B:Bool) (C:List Int):Prop where
 len:C.length=32
 rng: ∀x∈A,0≤x∧x<32
 mem: ∀k:Nat,k<32→((k:Int)∈A↔1≤C.getD k 0)
 nn: ∀k:Nat,k<32→0≤C.getD k 0
 tw:B=true↔ ∃k:Nat,k<32∧1<C.getD k 0
theorem qfJ{A O A' C:List Int}{B:Bool}(h:qw3 A B C)(ho:O.Nodup)(hr: ∀x∈O,0≤x∧x<32)(hA: ∀x,x∈A'↔x∈A∨x∈O):qw3 A' (B||A.any fun x=>decide (x∈O)) (qoP C O):=by
 have hl:=h.len;have hg:=fun (k:Nat) (hk:k<32)=>qmq O C k ho (fun x hx=>by have:=hr x hx;omega) om
 refine⟨by rw[qmr,hl],fun x hx=> ?_,fun k hk=> ?_,fun k hk=> ?_,?_⟩
 ·rcases (hA x).1 hx with hx|hx
  ·exact h.rng x hx
  ·exact hr x hx
 ·rw[hA,h.mem k hk,hg k hk]
  have:=h.nn k hk
  by_cases e:(k:Int)∈O
  ·rw[ipo e];exact⟨fun _=>by omega,fun _=> .inr e⟩
  ·rw[ine e];constructor
   ·rintro (h1|h1)
    ·omega
    ·exact absurd h1 e
   ·intro h1;exact .inl om
 ·rw[hg k hk]
  have:=h.nn k hk
  split<;>omega
 ·rw[Bool.or_eq_true,h.tw,List.any_eq_true];constructor
  ·rintro (⟨k,hk,h1⟩|⟨x,hx,h1⟩)
   ·refine⟨k,hk,?_⟩;rw[hg k hk];split<;>omega
   ·have h1:=of_decide_eq_true h1;have hx2:=h.rng x hx;have e:((x.toNat:Nat):Int)=x:=by omega
    refine⟨x.toNat,om,?_⟩;rw[hg _ om,e,ipo h1]
    have:=(h.mem x.toNat om).1 (by rw[e];exact hx)
    omega
  ·rintro⟨k,hk,h1⟩;rw[hg k hk]at h1
   by_cases e:(k:Int)∈O
   ·rw[ipo e]at h1;exact .inr ⟨(k:Int),(h.mem k hk).2 om,dqt e⟩
   ·rw[ine e]at h1;exact .inl ⟨k,hk,om⟩
theorem qrj:qw3 [] false (List.replicate 32 0):=by
 have g: ∀k:Nat,k<32→(List.replicate 32 (0:Int)).getD k 0=0:=fun k hk=>by
  rw[gdqA,List.getElem?_replicate,ipo hk];rfl
 refine⟨by simp,fun x hx=>by simp at hx,fun k hk=> ?_,fun k hk=> ?_,?_⟩
 ·rw[g k hk];simp
 ·rw[g k hk];omega
 ·constructor
  ·intro h;cases h
  ·rintro⟨k,hk,h1⟩;rw[g k hk]at h1;omega
theorem qpG(names:List Str)(gs:List Gr)(e:En): ∀i,qw3 (qhO names gs e i).1 (qhO names gs e i).2 (cnt names gs e i):=by
 have hO:=fun sg=>qbz (@qmT names gs sg)
 intro i
 induction i with
 |zero=>
  have:=qfJ (A':=qb5 names gs e.sup) qrj (qct names gs e.sup) (hO e.sup) (fun x=>by simp)
  exact this
 |succ i ih=>
  rw[qmc];unfold cnt;refine qfJ ih (qct _ _ _) (hO _) (fun x=> ?_);rw[qnv];constructor
  ·rintro⟨k,hk,h1,rfl⟩;simpa using h1
  ·intro hx;have hb:0≤x∧x<32:=by
    rcases hx with hx|hx
    ·exact ih.rng x hx
    ·exact hO _ x hx
   have e:((x.toNat:Nat):Int)=x:=by omega
   refine⟨x.toNat,om,?_,e.symm⟩;simp only[e];simpa using hx
theorem qdm(names:List Str)(gs:List Gr)(e:En)(i:Nat):qsb (cnt names gs e i)=(qhO names gs e i).2:=by
 have h:=qpG names gs e i;unfold qsb;rw[h.len,Bool.eq_iff_iff,h.tw,qv];simp only[decide_eq_true_eq]
def inV(names:List Str)(gs:List Gr)(e:En)(src:Int)(i:Nat):Bool:=decide (src∈qb5 names gs (e.vars.getD i default).sigla)
def vIx(names:List Str)(gs:List Gr)(e:En)(src:Int):Int:=qbQ (inV names gs e src) e.vars.length 0
def qfr(a b:En):Bool:=decide (a.frm<b.frm)||decide (a.frm=b.frm)&&decide (a.to<b.to)
end RC
end
section
open Go Go.Proofs AF
end
section
open Go Go.Proofs AF HY LN
namespace RC
end RC
end
section
namespace RC
variable {α : Type}
def qca(lt:α→α→Bool)(x:α):List α→List α
 | []=> [x]
 |y::r=>if lt x y=true then y::qca lt x r else x::y::r
def qd7(lt:α→α→Bool):List α→List α→List α
 |acc,[]=>acc
 |acc,x::r=>qd7 lt (qca lt x acc) r
def qsU(lt:α→α→Bool):Prop:= ∀a b c,lt a b=false→lt b c=false→lt a c=false
def Asy(lt:α→α→Bool):Prop:= ∀a b,lt a b=true→lt b a=false
def qsE(lt:α→α→Bool)(l:List α):Prop:=l.Pairwise fun a b=>lt a b=false
theorem qno{lt:α→α→Bool}{x:α}: ∀ {l:List α} {z:α},z∈qca lt x l↔z=x∨z∈l:=by
 intro l
 induction l with
 |nil=>intro z;simp[qca]
 |cons y r ih=>
  intro z;unfold qca;split
  ·simp only[List.mem_cons,ih];constructor
   ·rintro (h|h|h)
    ·exact .inr (.inl h)
    ·exact .inl h
    ·exact .inr (.inr h)
   ·rintro (h|h|h)
    ·exact .inr (.inl h)
    ·exact .inl h
    ·exact .inr (.inr h)
  ·simp
theorem qbR{lt:α→α→Bool}(hn:qsU lt)(ha:Asy lt){x:α}: ∀ {l:List α},qsE lt l→qsE lt (qca lt x l):=by
 intro l
 induction l with
 |nil=>intro _;exact List.pairwise_singleton _ _
 |cons y r ih=>
  intro h;obtain⟨h1,h2⟩:=List.pairwise_cons.1 h;unfold qca
  by_cases g:lt x y=true
  ·rw[ipo g];refine List.pairwise_cons.2 ⟨fun z hz=> ?_,ih h2⟩;rcases qno.1 hz with rfl|hz
   ·exact ha _ _ g
   ·exact h1 z hz
  ·rw[ine g];have g:lt x y=false:=by simpa using g
   refine List.pairwise_cons.2 ⟨fun z hz=> ?_,h⟩;rcases List.mem_cons.1 hz with rfl|hz
   ·exact g
   ·exact hn _ _ _ g (h1 z hz)
theorem qjV{lt:α→α→Bool}{x:α}{l:List α}(h: ∀z∈l,lt x z=false):qca lt x l=x::l:=by
 cases l with
 |nil=>rfl
 |cons y r=>
  unfold qca;rw[ine (by rw[h y (by simp)];simp)]
theorem qeG{lt:α→α→Bool}(hn:qsU lt)(p:α→Bool)(x:α): ∀ {l:List α},qsE lt l→(qca lt x l).filter p=if p x=true then qca lt x (l.filter p) else l.filter p:=by
 intro l
 induction l with
 |nil=>intro _;unfold qca;by_cases h:p x=true<;>simp[h,qca]
 |cons y r ih=>
  intro h;obtain⟨h1,h2⟩:=List.pairwise_cons.1 h
  by_cases g:lt x y=true
  ·have e:qca lt x (y::r)=y::qca lt x r:=by rw[qca,ipo g]
   rw[e,List.filter_cons,List.filter_cons,ih h2]
   by_cases hy:p y=true
   ·rw[ipo hy,ipo hy]
    by_cases hx:p x=true
    ·rw[ipo hx,ipo hx,qca,ipo g]
    ·rw[ine hx,ine hx]
   ·rw[ine hy,ine hy]
  ·have e:qca lt x (y::r)=x::y::r:=by rw[qca,ine g]
   have g:lt x y=false:=by simpa using g
   rw[e]
   by_cases hx:p x=true
   ·rw[ipo hx,List.filter_cons,ipo hx,qjV];intro z hz;rcases List.mem_cons.1 (List.mem_filter.1 hz).1 with rfl|hz
    ·exact g
    ·exact hn _ _ _ g (h1 z hz)
   ·rw[ine hx,List.filter_cons,ine hx]
theorem qdD{lt:α→α→Bool}(hn:qsU lt)(ha:Asy lt)(p:α→Bool): ∀(l acc:List α),qsE lt acc→(qd7 lt acc l).filter p=qd7 lt (acc.filter p) (l.filter p):=by
 intro l
 induction l with
 |nil=>intro acc _;rfl
 |cons x r ih=>
  intro acc h;rw[qd7,ih _ (qbR hn ha h),qeG hn p x h,List.filter_cons]
  by_cases hx:p x=true
  ·rw[ipo hx,ipo hx,qd7]
  ·rw[ine hx,ine hx]
theorem qd8{lt:α→α→Bool}(hn:qsU lt)(ha:Asy lt): ∀(l acc:List α),qsE lt acc→qsE lt (qd7 lt acc l):=by
 intro l
 induction l with
 |nil=>intro acc h;exact h
 |cons x r ih=>intro acc h;exact ih _ (qbR hn ha h)
end RC
end
section
namespace RC
variable {α : Type}
end RC
end
section
open Go Go.Proofs AF HY LN
namespace RC
theorem qat{a b:En}:qfr a b=true↔a.frm<b.frm∨a.frm=b.frm∧a.to<b.to:=by
 unfold qfr;simp[Bool.or_eq_true,Bool.and_eq_true]
theorem qaU{a b:En}:qfr a b=false↔b.frm<a.frm∨a.frm=b.frm∧b.to≤a.to:=by
 have:= @qat a b
 cases h:qfr a b with
 |true=>rw[h]at this;simp only[true_iff]at this;simp only[Bool.true_eq_false,false_iff];omega
 |false=>rw[h]at this;simp only[Bool.false_eq_true,false_iff]at this;simp only[true_iff];omega
theorem qft:qsU qfr:=by
 intro a b c h1 h2;rw[qaU]at*;omega
theorem qfs:Asy qfr:=by
 intro a b h;rw[qat]at h;rw[qaU];omega
def qsR(l:List En):List En:=(qd7 qfr [] l).reverse
def qzC(names:List Str)(gs:List Gr)(src:Int)(e:En):Bool:=decide (0≤vIx names gs e src)
def ofE(names:List Str)(gs:List Gr)(l:List En)(src:Int):List En:=(qsR l).filter (qzC names gs src)
theorem qjW{α:Type}{lt:α→α→Bool}{x:α}: ∀l:List α,(qca lt x l).Perm (x::l):=by
 intro l
 induction l with
 |nil=>exact List.Perm.refl _
 |cons y r ih=>
  unfold qca;split
  ·exact (List.Perm.cons y ih).trans (List.Perm.swap x y r)
  ·exact List.Perm.refl _
theorem qhg{α:Type}{lt:α→α→Bool}: ∀l acc:List α,(qd7 lt acc l).Perm (acc++l):=by
 intro l
 induction l with
 |nil=>intro acc;rw[lan];exact List.Perm.refl _
 |cons x r ih=>
  intro acc;refine (ih _).trans ((List.Perm.append_right r (qjW acc)).trans ?_);exact (List.perm_middle (a:=x) (l₁:=acc) (l₂:=r)).symm
theorem qea(l:List En):(qsR l).Perm l:=(List.reverse_perm _).trans (by simpa using qhg (lt:=qfr) l [])
theorem qe4(l:List En):(qsR l).Pairwise fun a b=>qfr b a=false:=by
 unfold qsR;rw[List.pairwise_reverse];exact qd8 qft qfs l [] List.Pairwise.nil
def qbN(a b:En):Bool:=decide (b.frm<a.to)||decide (a.frm=b.frm)&&decide (a.to=b.to)
def kQ:List En→Bool
 |a::b::r=>qbN a b||kQ (b::r)
 |_=>false
theorem qi9(L:List En):kQ L=true↔ ∃i,i+1<L.length∧qbN (L.getD i default) (L.getD (i+1) default)=true:=by
 induction L with
 |nil=>simp[kQ]
 |cons a L ih=>
  cases L with
  |nil=>simp[kQ]
  |cons b r=>
   rw[kQ,Bool.or_eq_true,ih];constructor
   ·rintro (h|⟨i,h1,h2⟩)
    ·exact⟨0,by simp,h⟩
    ·exact⟨i+1,by simpa using h1,h2⟩
   ·rintro⟨i,h1,h2⟩;cases i with
    |zero=>exact .inl h2
    |succ i=>exact .inr ⟨i,by simpa using h1,h2⟩
def qfn(names:List Str)(gs:List Gr)(l:List En):Bool:=zH (fun s=>kQ (ofE names gs l (s:Int))) names.length
theorem qcn{a:En}{r:List En}(h:kQ (a::r)=false):kQ r=false:=by
 cases r with
 |nil=>rfl
 |cons b r=>rw[kQ,Bool.or_eq_false_iff]at h;exact h.2
theorem qlq{L:List En}(hs:L.Pairwise fun a b=>qfr b a=false)(hc:kQ L=false):L.Pairwise fun a b=>qfr a b=true:=by
 induction L with
 |nil=>exact List.Pairwise.nil
 |cons a r ih=>
  obtain⟨h1,h2⟩:=List.pairwise_cons.1 hs;have h3:=ih h2 (qcn hc);refine List.pairwise_cons.2 ⟨?_,h3⟩;cases r with
  |nil=>intro z hz;cases hz
  |cons b r=>
   have hab:qfr a b=true:=by
    rw[kQ,Bool.or_eq_false_iff]at hc;have h5:=hc.1;unfold qbN at h5;rw[Bool.or_eq_false_iff,Bool.and_eq_false_imp,decide_eq_false_iff_not,decide_eq_true_iff,decide_eq_false_iff_not]at h5;have h4:=h1 b (by simp);rw[qaU]at h4;rw[qat];obtain⟨h5,h6⟩:=h5
    by_cases e:a.frm=b.frm
    ·have:=h6 e;omega
    ·omega
   intro z hz;rcases List.mem_cons.1 hz with rfl|hz
   ·exact hab
   ·have h6:=(List.pairwise_cons.1 h3).1 z hz;rw[qat]at*;omega
theorem qmE{L:List En}(hc:kQ L=false){i:Nat}(hi:i+1<L.length):(L.getD i default).to≤(L.getD (i+1) default).frm:=by
 cases h:qbN (L.getD i default) (L.getD (i+1) default)with
 |true=>rw[(qi9 L).2 ⟨i,hi,h⟩]at hc;cases hc
 |false=>
  unfold qbN at h;rw[Bool.or_eq_false_iff,decide_eq_false_iff_not]at h;omega
theorem qgV(names:List Str)(gs:List Gr)(l:List En)(src:Int):(ofE names gs l src).Pairwise fun a b=>qfr b a=false:=List.Pairwise.filter _ (qe4 l)
theorem qai{names:List Str}{gs:List Gr}{l:List En}(h:qfn names gs l=false){s:Nat}(hs:s<names.length):kQ (ofE names gs l (s:Int))=false:=
 qk.1 h s hs
structure qsC (names:List Str) (gs:List Gr) (t:List Str) (l:List En):Prop where
 sg:sgE names gs=0
 n:l.length≤4096
 ck: ∀e∈l,qxp names gs t e=0
 cl:qfn names gs l=false
structure qxc (names:List Str) (gs:List Gr) (t:List Str) (e:En):Prop where
 sg:sgE names gs=0
 tn:t.length≤4096
 tw:ql4 t=0
 lay:0≤e.layer∧e.layer<16
 rng:0≤e.frm∧e.frm≤e.to∧e.to≤t.length
 sp:0<e.sup.length→e.pos=true
 ne:e.vars.length≠0
 va: ∀i,i<e.vars.length→qoE t e i=0
 es:qgz names gs e.sup=0
 ev: ∀i,i<e.vars.length→qgz names gs (e.vars.getD i default).sigla=0
 tc:(qhO names gs e e.vars.length).2=false
theorem qi8{names:List Str}{gs:List Gr}{t:List Str}{e:En}:qxp names gs t e=0↔qxc names gs t e:=by
 unfold qxp;constructor
 ·intro h;split at h
  ·cases h
  rename_i h1;split at h
  ·cases h
  rename_i h2;split at h
  ·cases h
  rename_i h3;split at h
  ·cases h
  rename_i h4;split at h
  ·cases h
  rename_i h5;split at h
  ·cases h
  rename_i h6;split at h
  ·rename_i h7;exact absurd h h7
  rename_i h7;split at h
  ·rename_i h8;exact absurd h h8
  rename_i h8;split at h
  ·rename_i h9;exact absurd h h9
  rename_i h9;split at h
  ·cases h
  rename_i h10;unfold qsQ at h4;refine⟨Classical.not_not.1 h1,om,Classical.not_not.1 h3,om,om,fun h=> ?_,h6,jU.1 (Classical.not_not.1 h7),Classical.not_not.1 h8,jU.1 (Classical.not_not.1 h9),?_⟩
  ·cases hp:e.pos with
   |true=>rfl
   |false=>exact absurd ⟨h,hp⟩ h5
  ·rw[qdm]at h10;simpa using h10
 ·rintro⟨h1,h2,h3,h4,h5,h6,h7,h8,h9,h10,h11⟩;have hr: ¬qsQ t e:=by unfold qsQ;omega
  rw[ine (fun hc=>hc h1),ine om,ine (fun hc=>hc h3),ine hr,ine (by rintro⟨a,b⟩;rw[h6 a]at b;cases b),ine h7,ine (fun hc=>hc (zI (f:=qoE t e) h8)),ine (fun hc=>hc h9),
   ine (fun hc=>hc (zI (f:=fun i=>qgz names gs (e.vars.getD i default).sigla) h10)),ine (by rw[qdm,h11];simp)]
section
variable {k v w : Nat} {h : List AObj} {o o' : AObj} {ty : TypeId} {cs : List AV}
end
end RC
end
section
open Go Go.Proofs AF HY LN
namespace AF
theorem Wk.cells{t:List AV}{h:List AObj}{j v:Nat}{ty:TypeId}{cs cs':List AV}(hj:getO j h=some (.mem v ty cs))(hc:qas cs cs'):Wk t h t (setO j h (.mem v ty cs')):=by
 intro N w σ a H;have hjl:j<σ.length:=by rw[H.hr.len];exact zA hj
 have ho:=jr hjl;obtain⟨m1,m2,b,arr,m3,m4,m5,m6,m7,m8⟩:=H.hr.obj j _ _ hj ho;have q:=H.hr.recell (cs':=cs') hj ho m3 m4 m5 (by rw[hc.length];exact m6) (fun i x hi hx=>m7 i x (by rw[←hc.length];exact hi) hx) (fun i c x hi hx=>by
  obtain⟨c0,h1,h2⟩:=hc.get i c hi
  exact h2 _ _ _ (m8 i c0 x h1 hx))
 exact⟨σ,⟨q,H.sz,H.tm,H.df⟩,Ext.refl _ _⟩
end AF
namespace RC
end RC
end
section
open Go Go.Proofs AF HY LN
namespace RC
def stV(names:List Str)(gs:List Gr)(e:En):AV:= .sl e.vars.length fun j=> [qq (qb5 names gs (e.vars.getD j default).sigla)]
def msV(names:List Str)(gs:List Gr)(L:List En):AV:= .sl L.length fun i=> [stV names gs (L.getD i default)]
theorem qmZ(names:List Str)(gs:List Gr)(e:En):(stV names gs e).flag=true:=rfl
theorem qlw(names:List Str)(gs:List Gr)(e:En):(stV names gs e).strip=stV names gs e:=rfl
theorem qmX(names:List Str)(gs:List Gr)(L:List En):(msV names gs L).flag=true:=rfl
theorem qlu(names:List Str)(gs:List Gr)(L:List En):(msV names gs L).strip=msV names gs L:=rfl
theorem qq4{fz:Nat→Bool}{h:List AObj}{n:Nat}(names:List Str)(gs:List Gr)(e:En):frz fz h (n+1) (stV names gs e)=stV names gs e:=rfl
theorem qrS{fz:Nat→Bool}{h:List AObj}{n:Nat}(names:List Str)(gs:List Gr)(e:En):rei fz h (n+1) (stV names gs e)=stV names gs e:=rfl
theorem qq3{fz:Nat→Bool}{h:List AObj}{n:Nat}(names:List Str)(gs:List Gr)(L:List En):frz fz h (n+1) (msV names gs L)=msV names gs L:=rfl
theorem qrR{fz:Nat→Bool}{h:List AObj}{n:Nat}(names:List Str)(gs:List Gr)(L:List En):rei fz h (n+1) (msV names gs L)=msV names gs L:=rfl
attribute [go_sem] qmZ qlw qmX qlu qq4 qrS qq3 qrR
end RC
end
section
open Go Go.Proofs AF HY LN
namespace AF
theorem qbY{P:Program}{f:FuncId}{cap:List AV}{xs:List (List AV)}(hf:qsT P f cap xs){ps:List Nat}{b:Nat}{x y:C}{Q:Ex→Nx}{ts:List AV}{h:List AObj}(hps: ∀a∈xs,a.length=ps.length)
  (S:Nat→List AObj→Prop) (E:Ex→List AObj→Prop) (hS: ∀i hh,S i hh→LowI h hh) (hE: ∀s hh,E s hh→LowI h hh)
  (start:S 0 h) (hts: ∀c∈ts,jb (h.length+1) c=true)
  (body: ∀i hh tl L TS,(hi:i<xs.length)→S i hh→hh.length=h.length→ ∀(K:Nx) (K2:Ex→Nx),
   (∀t2 X hm,X=hm++ .lp .ready TS L::tl→hm.length=h.length→qO P b y K2 t2 (hm++ .lp .busy TS L::tl)→K t2 X)→
   (∀t3 X hh',X=hh'++ .lp .busy TS L::tl→hh'.length=h.length→S (i+1) hh'→K2 .normal t3 X)→
   (∀t3 X hh',X=hh'++ .lp .busy TS L::tl→hh'.length=h.length→E .ret hh'→K2 .ret t3 X)→
   (∀id t3 X hh',X=hh'++ .lp .busy TS L::tl→hh'.length=h.length→E (.exit id) hh'→K2 (.exit id) t3 X)→
   qO P b x (Ex.andThen K (fun _ _ _=>False)) (qb0 ts ps (xs[i])) (hh++ .lp .ready TS L::tl))
  (done: ∀hh,S xs.length hh→Q .normal ts hh) (doneE: ∀e hh,E e hh→match e with
   | .normal=>False
   |e=>Q e ts hh):
  qdX P (.fn (.func f) [] cap) ps (qO P b x) (qO P b y) Q ts h:=by
 intro L hy;show jt _ _ _ _ _;have key:=hf h ts L S (fun s hh=>match s with
  | .ret=>E .ret hh
  | .exit id=>E (.exit id) hh
  |_=>False) hS
  (by
   intro s hh hs;cases s with
   |ret=>exact hE _ _ hs
   |exit id=>exact hE _ _ hs
   |ready=>exact hs.elim
   |busy=>exact hs.elim)
  (by
   intro i hh tl hi i4;have hlen:=(hS _ _ i4).1;refine hy h.length ts _ _ _ (ku hlen) (hps _ (List.getElem_mem hi)) ?_;refine qaa (Q:=Ex.andThen (fun t2 h2=> ∃hm,hm.length=h.length∧h2=hm++ .lp .ready ts L::tl∧
    qO P b y (fun e t3 h3=> ∃hh',h3=hh'++ .lp .busy ts L::tl∧hh'.length=h.length∧match e with
     | .normal=>S (i+1) hh'
     | .ret=>E .ret hh'
     | .exit id=>E (.exit id) hh') t2 (hm++ .lp .busy ts L::tl)) (fun _ _ _=>False)) ?_
    (body i hh tl L ts hi i4 hlen _ _ (fun t2 X hm e1 e2 e3=>⟨hm,e2,e1,e3⟩) (fun t3 X hh' e1 e2 e3=>⟨hh',e1,e2,e3⟩) (fun t3 X hh' e1 e2 e3=>⟨hh',e1,e2,e3⟩) (fun id t3 X hh' e1 e2 e3=>⟨hh',e1,e2,e3⟩))
   intro e t2 h2 hq;cases e with
   |ret=>exact hq.elim
   |exit id=>exact hq.elim
   |normal=>
    obtain⟨hm,hml,rfl,h3⟩:=hq;refine⟨rfl,⟨ts,ku hml⟩,fun ts' hts'=> ?_⟩;rw[ku hml]at hts';cases hts';rw[qbn hml];refine qaa ?_ h3;rintro e t3 h3' ⟨hh',rfl,g1,g2⟩;refine⟨ts,ku g1,?_⟩;cases e with
    |normal=>exact⟨hh',.inl ⟨rfl,g2,qbn g1⟩⟩
    |ret=>exact⟨hh',.inr ⟨.ret,rfl,g2,qbn g1⟩⟩
    |exit id=>exact⟨hh',.inr ⟨.exit id,rfl,g2,qbn g1⟩⟩)
  start hts
 refine key.le (qas.refl _) ?_;rintro v h' ⟨hh,⟨g1,rfl⟩|⟨s,g1,rfl⟩⟩
 ·have hl:=hS _ _ g1;exact⟨v,qi,hh,.ready,ts,L,rfl,hl.1,fun o ho=>(hl.2 o ho).imp (fun h=>h) And.left,done hh g1⟩
 ·cases s with
  |ready=>exact g1.elim
  |busy=>exact g1.elim
  |ret=>
   have hl:=hE _ _ g1;exact⟨v,qi,hh,.ret,ts,L,rfl,hl.1,fun o ho=>(hl.2 o ho).imp (fun h=>h) And.left,doneE _ _ g1⟩
  |exit id=>
   have hl:=hE _ _ g1;exact⟨v,qi,hh,.exit id,ts,L,rfl,hl.1,fun o ho=>(hl.2 o ho).imp (fun h=>h) And.left,doneE _ _ g1⟩
end AF
namespace RC
theorem qnu(n:Nat)(L:List Str):jb n (strs L)=true:=rfl
end RC
end
section
open Go Go.Proofs AF HY LN
namespace AF
theorem Wk.ownNil{t:List AV}{h:List AObj}{j v i k ve sz:Nat}{ty:TypeId}{cs:List AV}(hj:getO j h=some (.mem v ty cs))(hi:cs[i]? =some .nl)(hk:getO k h=some (.emp ve)):
  Wk t h t (setO j h (.mem v ty (cs.set i (.osl k ve sz 0 0)))):=by
 intro N w σ a H;have hjl:j<σ.length:=by rw[H.hr.len];exact zA hj
 have hkl:k<σ.length:=by rw[H.hr.len];exact zA hk
 have ho:=jr hjl;have hok:=jr hkl;obtain⟨e1,e2⟩:=H.hr.obj k _ _ hk hok;obtain⟨m1,m2,b,arr,m3,m4,m5,m6,m7,m8⟩:=H.hr.obj j _ _ hj ho;have q:=H.hr.recell (cs':=cs.set i (.osl k ve sz 0 0)) hj ho m3 m4 m5 (by simpa using m6) (fun n x hn hx=>m7 n x (by simpa using hn) hx) (fun n c x hn hx=>by
  rw[List.getElem?_set]at hn;split at hn
  ·rename_i e;subst e;split at hn
   ·cases hn;have hv:=m8 i _ x hi hx;cases hv with
    |imm hv=>
     cases hv;exact .osl _ hok ⟨none,0,0,rfl⟩ (Nat.le_of_eq e1.symm) (fun _=> .inl ⟨e2,rfl,rfl,rfl⟩)
   ·cases hn
  ·exact m8 n c x hn hx)
 exact⟨σ,⟨q,H.sz,H.tm,H.df⟩,Ext.refl _ _⟩
end AF
namespace RC
structure qzf (t:List Str) (L:List En):Prop where
 rg: ∀i,i<L.length→0≤(L.getD i default).frm∧(L.getD i default).frm≤(L.getD i default).to∧(L.getD i default).to≤t.length
 nx: ∀i,i+1<L.length→(L.getD i default).to≤(L.getD (i+1) default).frm
theorem qrv{names:List Str}{gs:List Gr}{l:List En}{src:Int}{e:En}(h:e∈ofE names gs l src):e∈l:=(qea l).subset (List.mem_filter.1 h).1
theorem qjO{L:List En}{i:Nat}(hi:i<L.length):L.getD i default∈L:=by
 rw[gdqA,jr hi];exact List.getElem_mem hi
theorem qsC.tx{names:List Str}{gs:List Gr}{t:List Str}{l:List En}(h:qsC names gs t l){s:Nat}(hs:s<names.length):qzf t (ofE names gs l (s:Int)):=
 ⟨fun i hi=>(qi8.1 (h.ck _ (qrv (qjO hi)))).rng,fun i hi=>qmE (qai h.cl hs) hi⟩
end RC
end
section
open Go Go.Proofs AF HY LN
namespace RC
def qr8(L:List (List Str)):AV:= .sl L.length fun i=> [strs (L.getD i [])]
theorem qgG(L:List (List Str)):(qr8 L).flag=true:=rfl
theorem qfa(L:List (List Str)):(qr8 L).strip=qr8 L:=rfl
attribute [go_sem] qgG qfa
theorem zO(L:List Str):(zZ L).length=L.length:=by simp[zZ]
theorem qbD(L M:List Str):zZ (L++M)=zZ L++zZ M:=by simp[zZ]
theorem qon{L:List Str}:zZ L= []↔L= []:=by simp[zZ]
theorem qaN{L:List Str}{n:Nat}(g:AV→AV)(hg: ∀s,g (.str s)= .str s)(hn:n=L.length):VLe (.sl n fun i=>(((zZ L).drop i).take 1).map g) (strs L):=by
 subst hn;refine VLe.sl_eq rfl (fun i hi=> ?_);unfold zZ;rw[←List.map_drop,List.drop_eq_getElem_cons hi,List.map_cons,List.take_succ_cons,List.take_zero,List.map_cons,List.map_nil,hg,gdqA,jr hi];rfl
theorem qm4{α β:Type}(f:α→β)(L:List α):L.flatMap (fun i=> [f i])=L.map f:=by
 induction L with
 |nil=>rfl
 |cons a L ih=>rw[List.flatMap_cons,ih];rfl
theorem qln(h:List AObj){t:List Str}{a b:Nat}(h1:a≤b)(h2:b≤t.length):qo h (.sl (b-a) fun i=> [.str (t.getD (a+i) [])])=some (b-a,zZ (ql9 t a b)):=by
 show some (b-a,(List.range (b-a)).flatMap fun i=> [AV.str (t.getD (a+i) [])])=_;rw[qm4 (fun i=>AV.str (t.getD (a+i) []))];congr 2;unfold zZ ql9;apply List.ext_getElem
 ·simp;omega
 ·intro i g1 g2;have hi:i<b-a:=by simpa using g1
  have hl:a+i<t.length:=by omega
  simp[gdqA,hl]
theorem qol(h:List AObj)(t:List Str):qo h (strs t)=some (t.length,zZ t):=by
 have:=qln h (t:=t) (a:=0) (b:=t.length) (nzl _) (nlr _)
 simp only[Nat.sub_zero,Nat.zero_add]at this;have e:ql9 t 0 t.length=t:=by simp[ql9]
 rw[e]at this;exact this
end RC
end
section
open Go Go.Proofs AF HY LN
namespace AF
theorem qN{P:Program}{f:FuncId}{first cap args:List AV}{d:Option Nat}{nx:Nx}{t:List AV}{h h':List AObj}{r:AV}(hc:ACalls P f (first++args++cap) h r h')(hn:nx (qK t d r) h'):qaV P (.fn (.func f) first cap::args) d nx t h:=⟨r,h',hc,hn⟩
theorem qfO{v:Nat}{ty:TypeId}{cs:List AV}{n:Nat}(h: ∀c∈cs,jb n c=true):qao n (kx v ty cs):=by
 unfold kx;split
 ·trivial
 ·exact h
end AF
namespace RC
theorem qhf(L:List Str):(strs L).solid=true:=rfl
theorem qgq(L:List Str):(strs L).cells= [strs L]:=rfl
theorem qeq{k v z p n:Nat}(L:List Str):qbF (.osl k v z p n) (strs L)=true:=rfl
attribute [go_sem] qhf qgq qeq
theorem qf5(L:List Str)(n:Nat): ∀c∈zZ L,jb n c=true:=by
 intro c hc;unfold zZ at hc;obtain⟨x,_,rfl⟩:=List.mem_map.1 hc;rfl
theorem qf3{v:Nat}{L:List Str}{g:AV→AV}{n:Nat}(hg: ∀s,g (.str s)= .str s)(hn:n=L.length):VLe (qk8 (some (kx v 9 (zZ L))) v 1 0 n g) (strs L):=by
 subst hn
 by_cases h:L= []
 ·subst h;show VLe (qk8 (some (.emp v)) v 1 0 0 g) _;rw[slOf_emp,ipo rfl];exact qck
 ·have e0:kx v 9 (zZ L)= .mem v 9 (zZ L):=kV (fun e=>h (qon.1 e));rw[e0,slOf_mem,ipo ⟨rfl,by rw[zO];omega⟩];simp only[Nat.zero_add,Nat.mul_one];exact qaN g hg rfl
end RC
end
section
open Go Go.Proofs AF HY RC LN
namespace HY
def qei(v:Nat)(s:List UInt8):AObj:=if s= [] then .emp v else .mem v 5 (bytesA s)
theorem qfv(v:Nat):qei v []= .emp v:=rfl
theorem qew{s:List UInt8}(h:s≠ [])(v:Nat):qei v s= .mem v 5 (bytesA s):=ine h
theorem qgh(s u:List UInt8):bytesA (s++u)=bytesA s++bytesA u:=by simp[bytesA]
theorem qgi(s:List UInt8)(n:Nat): ∀c∈bytesA s,jb n c=true:=by
 intro c hc;unfold bytesA at hc;rw[List.mem_map]at hc;obtain⟨a,_,rfl⟩:=hc;rfl
theorem qmp(v:Nat)(s:List UInt8)(n:Nat):qao n (qei v s):=by
 unfold qei;split
 ·trivial
 ·exact qgi s n
theorem qeu{kb kj:Nat}{h:List AObj}{X Y Z:AObj}(hne:kb≠kj):setO kb (setO kj (setO kb h X) Y) Z=setO kj (setO kb h Z) Y:=by
 rw[qk5 hne,qd5]
theorem qpR(v:Nat)(u:List UInt8):(if u.length=0 then AObj.emp v else AObj.mem v 5 (bytesA u))=qei v u:=by
 unfold qei
 by_cases h:u= []
 ·simp[h]
 ·rw[ine h,ine (by simpa using h)]
theorem qdJ(w:World)(g n:Nat):w.grownBy (w.drew.freeze ⟨g,0,none⟩ n) (some g):=by
 unfold World.freeze;split
 ·exact⟨rfl,rfl,rfl,nlr _,fun _ _ _=>rfl⟩
 ·refine⟨rfl,rfl,rfl,?_,fun k hk hne=> ?_⟩
  ·show w.heap.size≤(w.heap.modify g _).size;rw[Array.size_modify];exact nlr _
  ·have:g≠k:=fun e=>hne (by rw[e])
   show (w.heap.modify g _)[k]? =w.heap[k]?;rw[Array.getElem?_modify,ine this]
theorem qg4{p:Program}{fits:TypeId→Bool}{e:TypeId}{c c' off n:Nat}(hc:c≤c'): ∀d,rowAt p fits d e c off n=true→rowAt p fits d e c' off n=true:=by
 intro d;cases d with
 |zero=>exact id
 |succ d=>
  unfold rowAt;simp only;split
  ·exact id
  ·intro h;rw[Bool.or_eq_true]at h ⊢;rcases h with h|h
   ·refine .inl ?_;simp only[Bool.and_eq_true,decide_eq_true_iff]at h ⊢;exact⟨⟨h.1.1,om⟩,h.2⟩
   ·refine .inr ?_;rw[Bool.and_eq_true]at h ⊢;exact⟨by simp only[decide_eq_true_iff]at h ⊢;omega,h.2⟩
theorem qeO{p:Program}{e u:TypeId}{c c' off n:Nat}(hc:c≤c'): ∀d,liesAt p d e c off u n=true→liesAt p d e c' off u n=true:=by
 intro d
 induction d generalizing u n with
 |zero=>exact id
 |succ d ih=>
  unfold liesAt;intro h;rw[Bool.or_eq_true]at h ⊢;rcases h with h|h
  ·exact .inl (qg4 hc _ h)
  ·refine .inr ?_;split at h
   ·exact ih h
   ·cases h
theorem qx7(n:Nat)(hn:2≤n):liesAt Tryz.prog Tryz.prog.depth 132 (n/Tryz.prog.cellsOf 132) 0 130 1=true:=by
 have e1:Tryz.prog.cellsOf 132=2:=by kernel_rfl
 have h1:liesAt Tryz.prog Tryz.prog.depth 132 1 0 130 1=true:=by kernel_rfl
 rw[e1];exact qeO om _ h1
theorem ccB(kb vb:Nat)(A B:AV)(h:List AObj)(hk:getO kb h=some (.mem vb 132 [A,B]))(hA:A= .nilp∨A= .op kb vb 0):ACalls Tryz.prog 212 [.op kb vb 0] h (.tup []) (setO kb h (.mem vb 132 [.op kb vb 0,B])):=by
 refine⟨qsN Tryz.func212 (by kernel_rfl) (by kernel_rfl),fun w σ xs H hv=> ?_⟩;obtain⟨x,rfl,hx⟩:=hv.one;have hc:=qS hk;obtain⟨cs,o,b,arr,g1,rfl,g2,g3,g4,g5,g6,g7,g9,g8⟩:=ko H hx (by rw[hc];rfl);rw[hc]at g1;cases g1;have hobj:=H.obj kb _ o hk g2;obtain⟨_,hty,_⟩:=hobj;rw[hty]at g5;have g5b:=g5;have g5:=g5.plain (by decide);have hsz:2≤arr.size:=g7;have hc0:w.cell? ⟨b,0,none⟩=some arr[0]:=by rw[kg g5b];simp
 have hA0:=g8 0 A arr[0] rfl (by simp);have hsh:w.shape? b=some (132,arr.size):=by simp[World.shape?,g5]
 have hfz:w.frozen? ⟨b,0,none⟩=false:=by simp[World.frozen?,g5]
 have hkl:=zA hk;rcases hA with rfl|rfl
 ·rw[qfk hA0]at hc0;refine (callsIn_wide.2 (qmw b 0 132 arr.size w hc0 om hsh hfz (qx7 _ hsz))).mono ?_;rintro e w' ⟨rfl,rfl⟩;have hg:w.grownBy (w.setCell ⟨b,0,none⟩ (.pointer (some ⟨b,0,none⟩))) o.blk:=by rw[g4];exact grownBy_setCell' w b _
  have hh:=heap_setCell_same w b 0 arr 132 (.pointer (some ⟨b,0,none⟩)) g5;obtain⟨u1,u2⟩:=H.update (o':=o) (a':= .mem vb 132 [.op kb vb 0,B]) g2 hg (nlr _) (fun _=>rfl)
   (by intro b' e;rw[g4]at e;cases e;exact⟨.inl g4,(Array.getElem?_eq_some_iff.1 hh).1⟩) (fun b' r e hr=>by rw[g4]at e;cases e;rw[g5]at hr;cases hr)
   (fun e=>⟨g3,hty,b,_,g4,by rw[hty];exact .mk hh,by simp[g6],by simp;exact hsz,fun i y hi hy=>by
    simp only[Array.getElem?_setIfInBounds]at hy;split at hy
    ·split at hy
     ·cases hy;rfl
     ·cases hy
    ·exact g9 i y (by simpa using hi) hy,fun i c y hc hy=>by
    simp only[Array.getElem?_setIfInBounds]at hy;split at hy
    ·rename_i e0;split at hy
     ·cases hy;subst e0;simp at hc;subst hc;have hko:(σ.set kb o)[kb]? =some o:=by rw[List.getElem?_set_self (by rw[H.len];exact hkl)]
      exact .op o hko ⟨_,rfl⟩ om (fun _=>⟨b,g4,rfl⟩)
     ·cases hy
    ·rename_i e0;have hne:i≠0:=fun e1=>e0 e1.symm
     have hcs: [.op kb vb 0,B]= [.nilp,B].set 0 (.op kb vb 0):=rfl;rw[hcs,List.getElem?_set_ne (fun e1=>hne e1.symm)]at hc
     exact (g8 i c y hc hy).ext e⟩)
  exact⟨_,_,rfl,u1,.imm (.tup rfl (fun i c x hc=>by simp at hc)),u2⟩
 ·obtain⟨o',q1,q2,q3⟩:=qwn hA0;rw[g2]at q1;cases q1;obtain⟨b',q4,q5⟩:=q3 g3;rw[g4]at q4;cases q4;rw[q5]at hc0;refine (callsIn_wide.2 (qqi b 0 w hc0)).mono ?_;rintro e w' ⟨rfl,rfl⟩;rw[setO_same hk];exact⟨_,σ,rfl,H,.imm (.tup rfl (fun i c x hc=>by simp at hc)),Ext.refl w' σ⟩
theorem qcM{kb vb kj v m:Nat}{h:List AObj}{s:List UInt8}(hkl:kb<h.length)(hjl:kj<h.length): ∀o∈setO kj (setO kb h (.mem vb 132 [.op kb vb 0,.osl kj v 1 0 m])) (qei v s),o∈h∨qao h.length o:=by
 intro o ho;rcases qcV ho with h1|rfl
 ·rcases qcV h1 with h2|rfl
  ·exact .inl h2
  ·right;intro c hc;simp only[List.mem_cons,List.not_mem_nil,or_false]at hc;rcases hc with rfl|rfl
   ·simpa[jb] using hkl
   ·simpa[jb] using hjl
 ·exact .inr (qmp v s _)
theorem qAi(kb vb kj v:Nat)(A:AV)(s u:List UInt8)(h:List AObj)(hne:kj≠kb)(hk:getO kb h=some (.mem vb 132 [A,.osl kj v 1 0 s.length]))(hA:A= .nilp∨A= .op kb vb 0)(hj:getO kj h=some (qei v s))(hl:s.length+u.length≤140737488355328):
  ACalls Tryz.prog 155 [.op kb vb 0,.str u] h (.tup [.int .i64 u.length,.nilif]) (setO kj (setO kb h (.mem vb 132 [.op kb vb 0,.osl kj (v+1) 1 0 (s.length+u.length)])) (qei (v+1) (s++u))):=by
 have hkl:=zA hk;have hjl:=zA hj;have hne':kb≠kj:=fun e=>hne e.symm
 have hk1: ∀l,getO kb (h++l)=some (.mem vb 132 [A,.osl kj v 1 0 s.length]):=fun l=>by rw[jG hkl,hk]
 refine acO quu ?_;simp (disch:=omega) only[qtb,go_sem];refine zp (ccB kb vb A _ _ (hk1 _) hA) ⟨rfl,trivial⟩ ?_
 by_cases hs:s= []
 ·subst hs;rw[qfv]at hj;simp (disch:=omega) only[qaM,jY,zJ,qjP,qjQ,qk3,qk4,jf,qaD,je,qgQ,hj,go_sem];refine⟨om,⟨by simp,by simp at hl;omega⟩,?_⟩;rw[qeu hne',qpR];refine qeH ⟨trivial,trivial,trivial⟩ (by simp only[zD]) (qcM hkl hjl) ⟨rfl,?_⟩ (qi);simp
 ·rw[qew hs]at hj;simp (disch:=omega) only[qaM,jY,zJ,qjP,qjQ,qk3,qk4,jf,qaD,je,qaY,hj,bytesA_len,go_sem]
  repeat' first
   |(with_reducible apply aiA)
  all_goals first
   |omega
   |(simp[bytesA_len];done)
   |skip
  rw[qeu hne',ltl (by simp[bytesA_len]),←qgh,←qew (by simp[hs])];exact qeH ⟨trivial,trivial,trivial⟩ (by simp only[zD]) (qcM hkl hjl) ⟨rfl,rfl⟩ (qi)
theorem qpz(kb vb kj v:Nat)(A:AV)(s:List UInt8)(h:List AObj)(hne:kj≠kb)(hk:getO kb h=some (.mem vb 132 [A,.osl kj v 1 0 s.length]))(hj:getO kj h=some (qei v s)):
  ACalls Tryz.prog 87 [.op kb vb 0] h (.str s) (setO kj h (.emp (v+1))):=by
 refine⟨qsN Tryz.func87 (by kernel_rfl) (by kernel_rfl),fun w σ xs H hv=> ?_⟩;obtain⟨x,rfl,hx⟩:=hv.one;have hc:=qS hk;obtain⟨cs,o,b,arr,g1,rfl,g2,g3,g4,g5,g6,g7,g9,g8⟩:=ko H hx (by rw[hc];rfl);rw[hc]at g1;cases g1;have hty:=(H.obj kb _ o hk g2).2.1;rw[hty]at g5;have g5b:=g5;have g5:=g5.plain (by decide);have hsz:2≤arr.size:=g7;have hc1:w.cell? ⟨b,0+1,none⟩=some arr[0+1]:=by rw[kg g5b];simp
 have hB:=g8 (0+1) _ arr[0+1] rfl (by simp);obtain⟨oj,j1,j2,j3⟩:=qpC hB;have hobj:=H.obj kj _ oj hj j1;have hkj:=zA hj
 by_cases hs:s= []
 ·subst hs;rw[qfv]at hj hobj;obtain⟨m1,m2⟩:=hobj;rcases j3 m1 with⟨_,_,_,e⟩|⟨b',cap,e,_⟩
  ·rw[e]at hc1;refine (callsIn_wide.2 (qoo b 0 w hc1)).mono ?_;rintro e w' ⟨rfl,rfl⟩;obtain⟨u1,u2⟩:=H.update (w':=w.drew) (o':= { oj with blk:=none,ver:=v+1 }) (a':= .emp (v+1)) j1 ⟨rfl,rfl,rfl,nlr _,fun _ _ _=>rfl⟩ (by simp only;omega) (by simp only;omega) (by intro b' e;cases e) (fun b' r e hr=>⟨r,hr⟩) (fun _=>⟨rfl,rfl⟩);exact⟨_,_,rfl,u1,.imm .str,u2⟩
  ·rw[m2]at e;cases e
 ·rw[qew hs]at hj hobj;obtain⟨m1,m2,bj,arrj,m3,m4,m5,m6,m7,m8⟩:=hobj;rcases j3 m1 with⟨e,_⟩|⟨b',cap,e1,e2,e3,e4,e5⟩
  ·rw[m3]at e;cases e
  ·rw[m3]at e1;cases e1;rw[e2]at hc1;rw[m2]at m4;have m4b:=m4;have m4:=m4.plain (by decide);rw[bytesA_len]at m6;refine (callsIn_wide.2 (qop b 0 bj cap s arrj w hs hc1 m4 e3 e4 om (fun j x hx=> ?_))).mono ?_
   ·have hjl:j<s.length:=(lgs.1 hx).1;rw[kg m4b];have ea:arrj[j]? =some arrj[j]:=by simp
    have:=m8 j (.int .u8 x.toNat) arrj[j] (by simp[bytesA,hx]) ea
    rw[ea,qV this]
   ·rintro e w' ⟨rfl,rfl⟩;have hg:w.grownBy (w.drew.freeze ⟨bj,0,none⟩ s.length) oj.blk:=by
     rw[m3];exact qdJ w bj s.length
    obtain⟨u1,u2⟩:=H.update (o':= { oj with blk:=none,ver:=v+1 }) (a':= .emp (v+1)) j1 hg (by simp only;omega) (by simp only;omega) (by intro b' e;cases e)
     (fun b' r e hr=>by rw[m3]at e;cases e;rw[m4]at hr;cases hr) (fun _=>⟨rfl,rfl⟩)
    exact⟨_,_,rfl,u1,.imm .str,u2⟩
end HY
end
section
open Go Go.Proofs AF
def qrc:List Nat:= [155,83]
def qyX:C:=
 ((C.ops [MV 6 1,O1 7 .len 6,MC 8 (i6 0)]).seq (C.block 0 ((C.ops [BI 9 .lss 8 7]).seq ((C.cond (.t 9) C.skip (C.exit 0)).seq ((C.block 1 ((C.ops [O2 10 (.idxA 1) 6 8,LD 11 10,
 MV 5 11]).seq (C.ops [MV 12 0,O1 13 .nilchk 12,O1 14 (.fldA 0) 13,MV 15 5,O2 16 (.call 155 false) 14 15]))).seq (C.ops [BC 17 .add 8 (i6 1),MV 8
 17])))).loop))
theorem qxR:qI Tryz.prog 83 18 0 [] qyX:=fi Tryz.f83 [] qrc []
end
section
open Go Go.Proofs AF HY LN
namespace RC
def wrO(kb vb kj v:Nat)(A:AV)(s:Str)(h:List AObj):List AObj:=setO kj (setO kb h (.mem vb 132 [A,.osl kj v 1 0 s.length])) (qei v s)
theorem qsB{kb vb kj v:Nat}{A:AV}{s:Str}{h:List AObj}(hk:getO kb h=some (.mem vb 132 [A,.osl kj v 1 0 s.length]))(hj:getO kj h=some (qei v s)):wrO kb vb kj v A s h=h:=by
 unfold wrO;rw[setO_same hk,setO_same hj]
theorem qyL{kb vb kj v:Nat}{A:AV}{s:Str}{h:List AObj}(hne:kj≠kb)(hk:kb<h.length):getO kb (wrO kb vb kj v A s h)=some (.mem vb 132 [A,.osl kj v 1 0 s.length]):=by
 unfold wrO;rw[zJ (fun e=>hne e.symm),jY hk]
theorem qyM{kb vb kj v:Nat}{A:AV}{s:Str}{h:List AObj}(hj:kj<h.length):getO kj (wrO kb vb kj v A s h)=some (qei v s):=by
 unfold wrO;rw[jY (by rw[zD];exact hj)]
theorem qyN{kb vb kj v v':Nat}{A A':AV}{s s':Str}{h:List AObj}(hne:kj≠kb):setO kj (setO kb (wrO kb vb kj v A s h) (.mem vb 132 [A',.osl kj v' 1 0 s'.length])) (qei v' s')=wrO kb vb kj v' A' s' h:=by
 unfold wrO;rw[qeu (fun e=>hne e.symm),qd5]
theorem qw2{kb vb kj v:Nat}{h:List AObj}{s:Str}(hkl:kb<h.length)(hjl:kj<h.length): ∀o∈wrO kb vb kj v (.op kb vb 0) s h,o∈h∨qao h.length o:=qcM hkl hjl
end RC
end
section
namespace Go.Proofs
open Go.Shelf
def Tryz.laysJ156_ren:Go.Shelf.Ren:=⟨fun|156=>85|165=>157|166=>155|169=>87|240=>212|241=>213|276=>260|277=>261|n=>n,fun|31=>22|9=>9|3=>3|4=>4|0=>0|20=>20|72=>130|76=>193|70=>127|37=>128|75=>192|127=>197|164=>265|5=>5|80=>137|n=>n,fun|n=>n⟩
theorem Tryz.laysJ156:Go.Proofs.Lays.n156 Tryz.prog Tryz.laysJ156_ren:= {
 mixed:=by kernel_rfl
 f156:=Tryz.func85.trans (congrArg some (by kernel_rfl))
 f165:=Tryz.func157.trans (congrArg some (by kernel_rfl))
 f166:=Tryz.func155.trans (congrArg some (by kernel_rfl))
 f169:=Tryz.func87.trans (congrArg some (by kernel_rfl))
 f240:=Tryz.func212.trans (congrArg some (by kernel_rfl))
 f241:=Tryz.func213.trans (congrArg some (by kernel_rfl))
 f276:=Tryz.func260.trans (congrArg some (by kernel_rfl))
 f277:=Tryz.func261.trans (congrArg some (by kernel_rfl))
 t0:=Tryz.underlying0
 a0:=Tryz.isAgg0
 z0:=Tryz.sizeOf0
 v0:=Tryz.zeroValue0
 t3:=Tryz.underlying3
 a3:=Tryz.isAgg3
 z3:=Tryz.sizeOf3
 v3:=Tryz.zeroValue3
 t4:=Tryz.underlying4
 a4:=Tryz.isAgg4
 z4:=Tryz.sizeOf4
 v4:=Tryz.zeroValue4
 t9:=Tryz.underlying9
 a9:=Tryz.isAgg9
 z9:=Tryz.sizeOf9
 v9:=Tryz.zeroValue9
 t20:=Tryz.underlying20
 a20:=Tryz.isAgg20
 z20:=Tryz.sizeOf20
 v20:=Tryz.zeroValue20
 t31:=Tryz.underlying22
 a31:=Tryz.isAgg22
 z31:=Tryz.sizeOf22
 v31:=Tryz.zeroValue22
 t37:=Tryz.underlying128
 a37:=Tryz.isAgg128
 z37:=Tryz.sizeOf128
 v37:=Tryz.zeroValue128
 t70:=Tryz.underlying127
 a70:=Tryz.isAgg127
 z70:=Tryz.sizeOf127
 v70:=Tryz.zeroValue127
 t72:=Tryz.underlying130
 a72:=Tryz.isAgg130
 z72:=Tryz.sizeOf130
 v72:=Tryz.zeroValue130
 t75:=Tryz.underlying192
 a75:=Tryz.isAgg192
 z75:=Tryz.sizeOf192
 v75:=Tryz.zeroValue192
 t76:=Tryz.underlying193
 a76:=Tryz.isAgg193
 z76:=Tryz.sizeOf193
 v76:=Tryz.zeroValue193
 t127:=Tryz.underlying197
 a127:=Tryz.isAgg197
 z127:=Tryz.sizeOf197
 v127:=Tryz.zeroValue197
 t164:=Tryz.underlying265
 a164:=Tryz.isAgg265
 z164:=Tryz.sizeOf265
 v164:=Tryz.zeroValue265 }
end Go.Proofs
end
section
open Go Go.Proofs AF HY LN
namespace RC
theorem kW(kb vb kj v ka va:Nat)(A:AV)(s:Str)(L:List Str)(h:List AObj)(hne:kj≠kb)(na:ka≠kb)(nj:ka≠kj)(ha:getO ka h=some (.mem va 9 (zZ L)))(hk:getO kb h=some (.mem vb 132 [A,.osl kj v 1 0 s.length]))(hA:A= .nilp∨A= .op kb vb 0)(hj:getO kj h=some (qei v s))
  (hL:L≠ []) (hLn:L.length≤1000000) (hl:s.length+L.flatten.length≤140737488355328):
  ACalls Tryz.prog 83 [.op kb vb 0,.osl ka va 1 0 L.length] h (.tup []) (wrO kb vb kj (v+L.length) (.op kb vb 0) (s++L.flatten) h):=by
 have hkl:=zA hk;have hjl:=zA hj;obtain⟨Af,hAf⟩: ∃Af:Nat→AV,Af=fun i=>if i=0 then A else .op kb vb 0:=⟨_,rfl⟩
 have hA2: ∀i,Af i= .nilp∨Af i= .op kb vb 0:=fun i=>by
  rw[hAf];simp only;split
  ·exact hA
  ·exact .inr rfl
 obtain⟨Sf,hSf⟩: ∃Sf:Nat→Str,Sf=fun i=>s++(L.take i).flatten:=⟨_,rfl⟩
 have h0:wrO kb vb kj (v+0) (Af 0) (Sf 0) h=h:=by
  rw[hAf,hSf];simp only[if_true,List.take_zero,List.flatten_nil,lan,Nat.add_zero];exact qsB hk hj
 have hSl: ∀i,(Sf i).length≤s.length+L.flatten.length:=fun i=>by
  rw[hSf];simp only[lap]
  have:(L.take i).flatten.length≤L.flatten.length:=by
   conv=>rhs;rw[←List.take_append_drop i L,List.flatten_append,lap]
   omega
  omega
 have hSs: ∀i,i<L.length→Sf (i+1)=Sf i++L.getD i []:=fun i hi=>by
  rw[hSf];simp only;rw[List.take_add_one,jr hi,List.flatten_append,gdqA,jr hi,List.append_assoc];simp
 have hga: ∀i,getO ka (wrO kb vb kj (v+i) (Af i) (Sf i) h)=some (.mem va 9 (zZ L)):=fun i=>by
  unfold wrO;rw[zJ nj,zJ na];exact ha
 have hca:=fun i=>qS (hga i)
 have hlv:zQ h ka va=true:=by unfold zQ;rw[ha];simp
 have hlw: ∀i,zQ (wrO kb vb kj (v+i) (Af i) (Sf i) h) ka va=true:=fun i=>by unfold zQ;rw[hga i];simp
 have hcg: ∀i,i<L.length→(zZ L)[i]? =some (.str (L.getD i [])):=fun i hi=>by
  unfold zZ;rw[List.getElem?_map,jr hi,gdqA,jr hi];rfl
 refine acO qxR ?_;simp (disch:=omega) only[qyX,hlv,go_sem];have hfin:Af L.length= .op kb vb 0:=by
  rw[hAf];simp only;rw[ine (fun e=>hL (List.eq_nil_of_length_eq_zero e))]
 have hfs:Sf L.length=s++L.flatten:=by rw[hSf];simp only[List.take_length]
 have hge:wrO kb vb kj (v+L.length) (.op kb vb 0) (s++L.flatten) h=wrO kb vb kj (v+L.length) (Af L.length) (Sf L.length) h:=by rw[hfin,hfs]
 rw[hge];refine qn (T:=fun i:Nat=>qM 18 [(0,.op kb vb 0),(6,.osl ka va 1 0 L.length),(7,.int .i64 L.length),(8,.int .i64 i)]) (H:=fun i=>wrO kb vb kj (v+i) (Af i) (Sf i) h) (inv:=fun i=>i≤L.length) (m:=fun i=>L.length-i) 0 (nzl _) ?s0 ?_
 case s0=>
  rw[h0];refine Wk.temps ?_
  (simp only[go_sem,qh,qe,qb,qg];try (repeat' first|(with_reducible apply aiA)|(apply qf;omega)|(apply qd;rfl)|exact qi))
 rintro i i1 K hK;have hsl:=hSl i
 by_cases hi:i<L.length
 ·have k1:((i:Int)<L.length)=True:=eqt om;have k0:(0≤(i:Int))=True:=eqt om;have hs1:=hSs i hi;have hsl1:=hSl (i+1);have gk:=qyL (vb:=vb) (v:=v+i) (A:=Af i) (s:=Sf i) (h:=h) hne hkl;have gj:=qyM (kb:=kb) (vb:=vb) (v:=v+i) (A:=Af i) (s:=Sf i) (h:=h) hjl;obtain⟨w,hw⟩: ∃w,w=L.getD i []:=⟨_,rfl⟩
  have ew:=hw.symm;rw[ew]at hs1;have hc:=qAi kb vb kj (v+i) (Af i) (Sf i) w _ hne gk (hA2 i) gj (by rw[hs1,lap]at hsl1;omega);have hAi:Af (i+1)= .op kb vb 0:=by rw[hAf];rfl
  have hlen:((Sf i).length+w.length)=(Sf (i+1)).length:=by rw[hs1,lap]
  have hr:wrO kb vb kj (v+i+1) (.op kb vb 0) (Sf (i+1)) h=wrO kb vb kj (v+(i+1)) (Af (i+1)) (Sf (i+1)) h:=by rw[hAi];rfl
  rw[←hs1,hlen,qyN hne,hr]at hc;have hcell:=qS gk;have hcA:=hca i;have hcG:=hcg i hi;have hLv:=hlw i;have eCl:=zO L;rw[ew]at hcG;simp (disch:=omega) only[k0,k1,hcA,hcG,hcell,go_sem]
  repeat' first
   |with_reducible apply aiA
  all_goals try exact clz
  refine zp hc (by exact flk) ?_;simp (disch:=omega) only[go_sem];refine hK _ _ (i+1) hi om (Wk.temps ?_)
  (simp only[go_sem,qh,qe,qb,qg];try (repeat' first|(with_reducible apply aiA)|(apply qf;omega)|(apply qd;rfl)|exact qi))
 have k1:((i:Int)<L.length)=False:=eqf om;obtain rfl:i=L.length:=by omega
 simp (disch:=omega) only[k1,go_sem];rw[hfin];exact kS trivial (by unfold wrO;simp only[zD]) (qw2 hkl hjl) ⟨rfl,rfl⟩ (qi)
theorem Tryz.joinX:Builder.Extra Tryz.prog Tryz.laysJ156_ren:= {
 sizeBuilder:=by kernel_rfl
 liesBuilder:=by kernel_rfl
 t5:=Tryz.underlying5
 a5:=Tryz.isAgg5
 z5:=Tryz.sizeOf5
 v5:=Tryz.zeroValue5
 infoByte:=by kernel_rfl
 cellsByte:=by kernel_rfl
 sizeByte:=by kernel_rfl
 neB5:=by decide }
theorem qt7(l:List UInt8):(ByteArray.mk l.toArray).data.toList=l:=by simp
theorem joP(L:List Str)(sep:Str)(h:List AObj)(hl:(Lib.join L sep).length≤1000000000)(hn:L.length≤1000000000):ACalls Tryz.prog 85 [strs L,.str sep] h (.str (Lib.join L sep)) h:=by
 refine⟨qsN Tryz.func85 (by kernel_rfl) (by kernel_rfl),fun w σ xs H hv=> ?_⟩;obtain⟨x,y,rfl,hx,hy⟩:=hv.two;rw[z7 hy];have hm:(L.map fun s=>ByteArray.mk s.toArray).map (·.data.toList)=L:=by
  rw[List.map_map];exact (List.map_congr_left (fun i _=>qt7 i)).trans (List.map_id _)
 have hd:(ByteArray.mk sep.toArray).data.toList=sep:=qt7 sep;have key:CallsIn Fence.wide 0 Tryz.prog 85 #[x,.string ⟨sep.toArray⟩] w fun e w'=>e= .returned (.string ⟨(Lib.join L sep).toArray⟩)∧Go.RowKit.Below w.heap.size w w':=by
  rcases qsh hx with⟨h0,a,rfl⟩|⟨b,off,cap,rfl,h1,h2,h3⟩
  ·obtain rfl:=List.eq_nil_of_length_eq_zero h0;refine (callsIn_wide.2 (Any.strings_Join_none Tryz.laysJ156 Tryz.joinX a 0 ⟨sep.toArray⟩ w)).mono ?_;rintro e w' ⟨rfl,rfl⟩;exact⟨rfl,Go.RowKit.Below.refl _ _⟩
  ·have hln:(L.map fun s=>ByteArray.mk s.toArray).length=L.length:=by simp
   have hc:=Any.strings_Join Tryz.laysJ156 Tryz.joinX b off cap (L.map fun s=>ByteArray.mk s.toArray) ⟨sep.toArray⟩ w (fun j x hj=>by
    rw[List.getElem?_map,Option.map_eq_some_iff]at hj;obtain⟨i,hi,rfl⟩:=hj;obtain⟨hlt,e⟩:=lgs.1 hi
    have:=h3 j hlt
    rw[this,gdqA,hi]
    rfl) h2 om om (by rw[hm,hd];omega)
   rw[hln,hm,hd]at hc;exact callsIn_wide.2 hc
 refine key.mono ?_;rintro e w' ⟨rfl,hb⟩;obtain⟨H',e'⟩:=Ext.ofBelow H hb;exact⟨_,σ,rfl,H',.imm .str,e'⟩
theorem joB{L:List Str}{sep:Str}{X:AV}{h:List AObj}(hv:qas ([X,.str sep].map (rei (fun _=>true) h 8)) [strs L,.str sep])(hl:(Lib.join L sep).length≤1000000000)(hn:L.length≤1000000000):ACalls Tryz.prog 85 [X,.str sep] h (.str (Lib.join L sep)) h:=
 ACalls.borrow ((joP L sep [] hl hn).le hv (qi)) rfl
structure Tk where
 text:Str
 norm:Str
 page:Str
 line:Int
 flags:Int
 name:Str
 deriving Inhabited, DecidableEq
def tkC(t:Tk):List AV:= [.str t.text,.str t.norm,.str t.page,.int .i64 t.line,.int .i64 t.flags,.str t.name]
def zM(l:List Tk):AV:= .sl l.length fun i=>tkC (l.getD i default)
def qm(L:List (List Tk)):AV:= .sl L.length fun i=> [zM (L.getD i [])]
def qp(L:List (List Int)):AV:= .sl L.length fun i=> [qq (L.getD i [])]
structure Co where
 sec:Str
 sig:List Str
 tok:List (List Tk)
 col:List (List Int)
 deriving Inhabited
def coC(x:Co):List AV:= [.str x.sec,strs x.sig,qm x.tok,qp x.col]
structure Rd where
 words:List Str
 src:List Int
 deriving Inhabited, DecidableEq
def rdC(r:Rd):List AV:= [strs r.words,qq r.src]
def zL(l:List Rd):AV:= .sl l.length fun i=>rdC (l.getD i default)
structure Un where
 frm:Int
 to:Int
 rds:List Rd
 deriving Inhabited, DecidableEq
def unC(u:Un):List AV:= [.int .i64 u.frm,.int .i64 u.to,zL u.rds]
def qz(l:List Un):AV:= .sl l.length fun i=>unC (l.getD i default)
structure Wd where
 text:Str
 col:Int
 unit:Int
 dec:Int
 joined:Bool
 verse:Bool
 name:Str
 deriving Inhabited, DecidableEq
def wdC(w:Wd):List AV:= [.str w.text,.int .i64 w.col,.int .i64 w.unit,.int .i64 w.dec,.bool w.joined,.bool w.verse,.str w.name]
def qZ(l:List Wd):AV:= .sl l.length fun i=>wdC (l.getD i default)
theorem flag_tksV(L:List Tk):(zM L).flag=true:=rfl
theorem strip_tksV(L:List Tk):(zM L).strip=zM L:=rfl
theorem flag_tkssV(L:List (List Tk)):(qm L).flag=true:=rfl
theorem strip_tkssV(L:List (List Tk)):(qm L).strip=qm L:=rfl
theorem flag_colsV(L:List (List Int)):(qp L).flag=true:=rfl
theorem strip_colsV(L:List (List Int)):(qp L).strip=qp L:=rfl
theorem flag_rdsV(L:List Rd):(zL L).flag=true:=rfl
theorem strip_rdsV(L:List Rd):(zL L).strip=zL L:=rfl
theorem flag_unsV(L:List Un):(qz L).flag=true:=rfl
theorem strip_unsV(L:List Un):(qz L).strip=qz L:=rfl
theorem flag_wdsV(L:List Wd):(qZ L).flag=true:=rfl
theorem strip_wdsV(L:List Wd):(qZ L).strip=qZ L:=rfl
section
variable {fz : Nat → Bool} {h : List AObj} {n : Nat}
theorem rei_tksV(L:List Tk):rei fz h (n+1) (zM L)=zM L:=rfl
theorem rei_tkssV(L:List (List Tk)):rei fz h (n+1) (qm L)=qm L:=rfl
theorem rei_colsV(L:List (List Int)):rei fz h (n+1) (qp L)=qp L:=rfl
theorem rei_rdsV(L:List Rd):rei fz h (n+1) (zL L)=zL L:=rfl
theorem rei_unsV(L:List Un):rei fz h (n+1) (qz L)=qz L:=rfl
theorem rei_wdsV(L:List Wd):rei fz h (n+1) (qZ L)=qZ L:=rfl
theorem frz_tksV(L:List Tk):frz fz h (n+1) (zM L)=zM L:=rfl
theorem frz_tkssV(L:List (List Tk)):frz fz h (n+1) (qm L)=qm L:=rfl
theorem frz_colsV(L:List (List Int)):frz fz h (n+1) (qp L)=qp L:=rfl
theorem frz_rdsV(L:List Rd):frz fz h (n+1) (zL L)=zL L:=rfl
theorem frz_unsV(L:List Un):frz fz h (n+1) (qz L)=qz L:=rfl
theorem frz_wdsV(L:List Wd):frz fz h (n+1) (qZ L)=qZ L:=rfl
end
attribute [go_sem] flag_tksV strip_tksV flag_tkssV strip_tkssV flag_colsV strip_colsV flag_rdsV strip_rdsV flag_unsV strip_unsV flag_wdsV strip_wdsV rei_tksV rei_tkssV rei_colsV rei_rdsV rei_unsV rei_wdsV frz_tksV frz_tkssV frz_colsV frz_rdsV frz_unsV frz_wdsV
def qni(f:Int):Bool:=f.toNat.testBit 1
def mkB(f:Int):Bool:=f.toNat.testBit 3
def ql8(s:Str):Bool:=decide (s= [])||j0 s
def qvF(s:Str):Bool:=decide (s.length=1)&&(decide (kind (ch s 0)=5)||decide (kind (ch s 0)=4))
def qeK(c:UInt8):Bool:=decide (kind c=1)||(decide (kind c=3)||(decide (kind c=2)||decide (kind c=4)))
def qsL(s:Str):Bool:=decide (s≠ [])&&(decide (s.length≤64)&&(List.range s.length).all fun i=>qeK (ch s i))
def txB(t:Tk):Bool:=if qni t.flags=true then qek t.text&&decide (t.norm=t.text) else if mkB t.flags=true then qvF t.text&&decide (t.norm=t.text) else kT t.text&&qsL t.norm
def tkE(t:Tk):Int:=
 if t.flags<0∨31<t.flags then 2 else if qni t.flags=true∧mkB t.flags=true then 8 else if txB t=false then 11 else if t.line<0 then 2 else if ql8 t.page=false∨ql8 t.name=false then 14 else 0
def qde(l:List Tk):Int:=if 1024<l.length then 4 else if zH (fun j=>decide (tkE (l.getD j default)≠0)) l.length=true then 1 else 0
def srE(x:Co):Int:=
 if j0 x.sec=false then 14 else if x.sig.length=0 then 5 else if 32<x.sig.length then 4 else if qaS (jq x.sig) 0 x.sig.length≠0 then qaS (jq x.sig) 0 x.sig.length else
  if x.tok.length≠x.sig.length then 9 else qaS (fun i=>qde (x.tok.getD i [])) 0 x.tok.length
def cnC(col:List (List Int))(s:Nat):Nat→Nat
 |0=>0
 |i+1=>cnC col s i+if (col.getD i []).getD s 0= -1 then 0 else 1
def enB(tok:List (List Tk))(col:List (List Int))(i s:Nat):Bool:=
 decide ((col.getD i []).getD s 0= -1)||(decide ((col.getD i []).getD s 0=(cnC col s i:Int))&&decide ((col.getD i []).getD s 0<((tok.getD s []).length:Int)))
def qdz(tok:List (List Tk))(col:List (List Int))(i:Nat):Bool:=
 decide ((col.getD i []).length=tok.length)&&(!zH (fun s=> !enB tok col i s) tok.length&&zH (fun s=> !decide ((col.getD i []).getD s 0= -1)) tok.length)
def alB(tok:List (List Tk))(col:List (List Int)):Bool:=
 !zH (fun i=> !qdz tok col i) col.length&& !zH (fun s=> !decide (cnC col s col.length=(tok.getD s []).length)) tok.length
def coE(x:Co):Int:=if srE x≠0 then srE x else if alB x.tok x.col=false then 19 else 0
structure CoOk (x:Co):Prop where
 sg:0<x.sig.length∧x.sig.length≤32
 tn:x.tok.length=x.sig.length
 tl: ∀s,s<x.tok.length→(x.tok.getD s []).length≤1024
 te: ∀s,s<x.tok.length→ ∀j,j<(x.tok.getD s []).length→tkE ((x.tok.getD s []).getD j default)=0
 cl: ∀i,i<x.col.length→(x.col.getD i []).length=x.sig.length
 ce: ∀i,i<x.col.length→ ∀s,s<x.sig.length→(x.col.getD i []).getD s 0= -1∨((x.col.getD i []).getD s 0=(cnC x.col s i:Int)∧(x.col.getD i []).getD s 0<((x.tok.getD s []).length:Int))
 cs: ∀i,i<x.col.length→ ∃s,s<x.sig.length∧(x.col.getD i []).getD s 0≠ -1
 ct: ∀s,s<x.sig.length→cnC x.col s x.col.length=(x.tok.getD s []).length
theorem qco{x:Co}(h:coE x=0):CoOk x:=by
 unfold coE at h;split at h
 ·rename_i h1;exact absurd h h1
 rename_i h1;have h1:=Classical.not_not.1 h1;split at h
 ·cases h
 rename_i h2;unfold srE at h1;split at h1
 ·cases h1
 split at h1
 ·cases h1
 rename_i g2;split at h1
 ·cases h1
 rename_i g3;split at h1
 ·rename_i g4;exact absurd h1 g4
 split at h1
 ·cases h1
 rename_i g5;have g5:=Classical.not_not.1 g5;have h3:=jU.1 h1;have h2:alB x.tok x.col=true:=by simpa using h2
 unfold alB at h2;rw[Bool.and_eq_true,Bool.not_eq_true',Bool.not_eq_true',qk,qk]at h2;obtain⟨h4,h5⟩:=h2;have h6: ∀i,i<x.col.length→qdz x.tok x.col i=true:=fun i hi=>by simpa using h4 i hi
 have hrow: ∀s,s<x.tok.length→(x.tok.getD s []).length≤1024∧ ∀j,j<(x.tok.getD s []).length→tkE ((x.tok.getD s []).getD j default)=0:=fun s hs=>by
  have:=h3 s hs
  unfold qde at this;split at this
  ·cases this
  rename_i k1;split at this
  ·cases this
  rename_i k2;refine⟨om,fun j hj=> ?_⟩
  have:=qk.1 (by simpa using k2) j hj
  simpa using this
 refine⟨om,g5,fun s hs=>(hrow s hs).1,fun s hs=>(hrow s hs).2,fun i hi=> ?_,fun i hi s hs=> ?_,fun i hi=> ?_,fun s hs=> ?_⟩
 ·have:=h6 i hi
  unfold qdz at this;rw[Bool.and_eq_true,decide_eq_true_iff]at this;omega
 ·have:=h6 i hi
  unfold qdz at this;rw[Bool.and_eq_true,Bool.and_eq_true,Bool.not_eq_true',qk]at this
  have:=this.2.1 s om
  have this:enB x.tok x.col i s=true:=by simpa using this
  unfold enB at this;simpa[Bool.or_eq_true,Bool.and_eq_true] using this
 ·have:=h6 i hi
  unfold qdz at this;rw[Bool.and_eq_true,Bool.and_eq_true]at this;obtain⟨s,hs,hv⟩:=qv.1 this.2.2;exact⟨s,om,by simpa using hv⟩
 ·have:=h5 s om
  simpa using this
end RC
end
