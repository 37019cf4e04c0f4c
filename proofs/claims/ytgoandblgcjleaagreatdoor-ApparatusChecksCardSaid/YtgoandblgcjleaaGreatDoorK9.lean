import Derived.Test.YtgoandblgcjleaaGreatDoorK8
import Derived.Test.YtgoandblgcjleaaGreatDoorK3
import Derived.Test.YtgoandblgcjleaaGreatDoorK5
import Derived.Test.YtgoandblgcjleaaGreatDoorProg
set_option linter.all false
set_option linter.unusedSimpArgs false
set_option linter.unusedVariables false
set_option linter.unusedSectionVars false
set_option maxRecDepth 100000
section
open Go Go.Proofs AF HY
namespace HY
theorem qEZ(c:UInt8)(h:List AObj):ACalls Tryz.prog 290 [.int .u8 (c.toNat:Int)] h (.bool (spc c)) h:=by
 refine qx qzA (by simp) ?_;simp only[lco,lnl,Nat.reduceAdd,Nat.reduceSub,List.replicate,lca,lna,lan];simp (disch:=omega) only[qxP,go_sem]
 repeat' first
  |(refine qD (qda c _) ?_ ?_;exact flk;simp (disch:=omega) only[go_sem])
  |(apply qe;exact rvk;simp only[go_sem];exact qk)
def qaq(s:List UInt8):AV:= .sl s.length fun i=> [.int .u8 ((s.getD i 0).toNat:Int)]
def qb4(p:UInt8→Bool):List UInt8→Nat→Int
 | [],_=> -1
 |c::r,i=>if p c=true then i else qb4 p r (i+1)
theorem qlq(p:UInt8→Bool): ∀(s:List UInt8) (i:Nat),(0≤qb4 p s i↔s.any p=true)∧ -1≤qb4 p s i:=by
 intro s
 induction s with
 |nil=>intro i;simp[qb4]
 |cons c r ih=>
  intro i
  by_cases hc:p c=true
  ·have e:qb4 p (c::r) i=i:=ipo hc;rw[e,List.any_cons,hc];simp
   try omega
  ·have e:qb4 p (c::r) i=qb4 p r (i+1):=ine hc;rw[e,List.any_cons];have hc':p c=false:=by simpa using hc
   rw[hc',Bool.false_or];exact ih (i+1)
theorem qlp(p:UInt8→Bool)(s:List UInt8)(i:Nat):decide (0≤qb4 p s i)=s.any p:=by
 rw[Bool.eq_iff_iff,decide_eq_true_eq];exact (qlq p s i).1
theorem qE2(s:List UInt8)(p:UInt8→Bool)(F:Nat)(h:List AObj)(hs:s.length≤1000000000)(hp: ∀(c:UInt8) (h:List AObj),ACalls Tryz.prog F [.int .u8 (c.toNat:Int)] h (.bool (p c)) h):ACalls Tryz.prog 308 [qaq s,.fn (.func F) [] []] h (.int .i64 (qb4 p s 0)) h:=by
 refine qx qzG (by simp) ?_;simp only[lco,lnl,Nat.reduceAdd,Nat.reduceSub,List.replicate,lca,lna,lan];simp (disch:=omega) only[qxU,qaq,go_sem];refine qn (T:=fun i:Nat=>qI 19 [(0,qaq s),(1,.fn (.func F) [] []),(6,qaq s),(7,.int .i64 s.length),(8,.int .i64 i)]) (H:=fun _=>h) (inv:=fun i=>i≤s.length∧qb4 p s 0=qb4 p (s.drop i) i) (m:=fun i=>s.length-i) 0 ⟨om,by simp⟩ (Wk.temps ?_) ?_
 ·(simp only[qaq,qI,List.foldl,go_sem,qj,qd,qa,qi];try (repeat' first|(with_reducible apply aiA)|(apply qh;omega)|(apply qg;rfl)|exact qk))
 ·rintro i ⟨i1,i2⟩ K hK;rw[i2]
  by_cases hi:i<s.length
  ·have e:s.drop i=s.getD i 0::s.drop (i+1):=by rw[List.drop_eq_getElem_cons hi];simp[gdqA,hi]
   rw[e]at i2 ⊢;simp only[qb4]at i2 ⊢;have hpc:=fun h=>hp (s.getD i 0) h
   cases hb:p (s.getD i 0)with
   |true=>
    rw[hb]at hpc;simp (disch:=omega) only[qI,List.foldl,qaq,go_sem]
    repeat' first
     |(refine qw (hpc _) ?_;simp (disch:=omega) only[go_sem,qq])
     |(apply qe;exact rvk;simp only[go_sem];first|exact qk|apply qh)
     |with_reducible first|intro _|apply aiA
    all_goals try exact clz
   |false=>
    rw[hb]at hpc i2;simp (disch:=omega) only[qI,List.foldl,qaq,go_sem]
    repeat' first
     |(refine qw (hpc _) ?_;simp (disch:=omega) only[go_sem,qq])
     |(apply qe;exact rvk;simp only[go_sem];apply qh)
     |with_reducible first|intro _|apply aiA
    all_goals try exact clz
    refine hK _ _ (i+1) ⟨om,by rw[i2];simp⟩ om (Wk.temps ?_)
    (simp only[qaq,qI,List.foldl,go_sem,qj,qd,qa,qi];try (repeat' first|(with_reducible apply aiA)|(apply qh;omega)|(apply qg;rfl)|exact qk))
  ·have e:i=s.length:=by omega
   subst e;rw[List.drop_length];simp (disch:=omega) only[qI,List.foldl,qaq,go_sem]
   repeat' first
    |(apply qe;exact rvk;simp only[go_sem];exact qk)
    |with_reducible first|intro _|apply aiA
   all_goals try exact clz
theorem qEY(s:List UInt8)(p:UInt8→Bool)(F:Nat)(h:List AObj)(hs:s.length≤1000000000)(hp: ∀(c:UInt8) (h:List AObj),ACalls Tryz.prog F [.int .u8 (c.toNat:Int)] h (.bool (p c)) h):ACalls Tryz.prog 289 [qaq s,.fn (.func F) [] []] h (.bool (s.any p)) h:=by
 rw[←qlp p s 0];refine qx qzz (by simp) ?_;simp only[lco,lnl,Nat.reduceAdd,Nat.reduceSub,List.replicate,lca,lna,lan];simp (disch:=omega) only[qxO,qaq,go_sem]
 repeat' first
  |(refine qD (qE2 s p F _ hs hp) ?_ ?_;exact flk;simp (disch:=omega) only[go_sem])
  |(apply qe;exact rvk;simp only[go_sem];exact qk)
theorem t88(s:List UInt8)(h:List AObj)(hs:s.length≤1000000000):ACalls Tryz.prog 247 [.str s] h (.bool (qae s)) h:=by
 obtain⟨c,hc⟩: ∃c,c=qaM s:=⟨_,rfl⟩
 have h104: ∀h:List AObj,ACalls Tryz.prog 288 [.str s] h (.int .i64 c) h:=fun h=>by rw[hc];exact qEX s h hs
 have hw:qae s=(decide (0<s.length)&&decide (s.length≤64)&&decide (c=0)&&(decide (zG (ch s 0)=1)||decide (zG (ch s 0)=3))&& !(s.any spc)):=by rw[hc];rfl
 rw[hw]
 by_cases g1:0<s.length
 ·have k1:(s= [])=False:=eqf (by intro e;rw[e]at g1;simp at g1)
  by_cases g2:s.length≤64
  ·have k2:(64<(s.length:Int))=False:=eqf om
   by_cases g3:c=0
   ·refine qx qhc (by simp) ?_;simp only[lco,lnl,Nat.reduceAdd,Nat.reduceSub,List.replicate,lca,lna,lan];simp (disch:=omega) only[qkH,k1,k2,g3,go_sem]
    repeat' first
     |((first|refine qD (qda _ _) ?_ ?_|refine qD (qEY s spc 290 _ hs qEZ) ?_ ?_);exact flk;simp (disch:=omega) only[go_sem])
     |(refine qK (fun e=>⟨?_,h104 _⟩) ?_;exact flk;simp (disch:=omega) only[g3,jG,go_sem])
     |(apply qe;exact rvk;simp only[go_sem];apply qg)
     |with_reducible first|intro _|apply aiA
    all_goals try exact clz
    all_goals (generalize s.any spc=b;grind)
   ·refine qx qhc (by simp) ?_;simp only[lco,lnl,Nat.reduceAdd,Nat.reduceSub,List.replicate,lca,lna,lan];simp (disch:=omega) only[qkH,k1,k2,go_sem]
    repeat' first
     |(refine qK (fun e=>⟨?_,h104 _⟩) ?_;exact flk;simp (disch:=omega) only[g3,jG,go_sem])
     |(apply qe;exact rvk;simp only[go_sem];exact qk)
    all_goals (generalize s.any spc=b;grind)
  ·have k2:(64<(s.length:Int))=True:=eqt om;refine qx qhc (by simp) ?_;simp only[lco,lnl,Nat.reduceAdd,Nat.reduceSub,List.replicate,lca,lna,lan];simp (disch:=omega) only[qkH,k1,k2,go_sem]
   repeat' first
    |(refine qm ((.int .i64 0)) ?_;simp (disch:=omega) only[go_sem])
    |(apply qe;exact rvk;simp only[go_sem];apply qg)
   all_goals (generalize s.any spc=b;grind)
 ·have e:s= []:=List.eq_nil_of_length_eq_zero om;subst e;refine qx qhc (by simp) ?_;simp only[lco,lnl,Nat.reduceAdd,Nat.reduceSub,List.replicate,lca,lna,lan];simp (disch:=omega) only[qkH,go_sem]
  repeat' first
   |(refine qm ((.int .i64 0)) ?_;simp (disch:=omega) only[go_sem])
   |(apply qe;exact rvk;simp only[go_sem];exact qk)
  all_goals (generalize List.any _ spc=b;grind)
end HY
end
section
open Go Go.Proofs AF
def qv:List Nat:= [132,109,174,220,68]
theorem qCh:qB Tryz.prog 53 26 0 [RV.tmp 4] cEQ:=fi Tryz.f53 [] qv []
theorem qCe:qB Tryz.prog 40 26 0 [RV.tmp 4] cEQ:=fi Tryz.f40 [] qv []
def qtb:C:=
 ((C.ops [ON 6 (.nilo 0 1 3) [],MC 7 (i6 0)]).seq (((C.ops [MV 14 0,MV 15 1,O2 16 (.call 98 true) 14 15,BC 17 .neq 16 (i6 0)]).seq (C.cond (.t 17) ((C.ops [ON 6 (.nilo 0 1 3)
 [],MC 7 (i6 1)]).seq C.ret) C.skip)).seq ((C.ops [⟨some 18,none,.bslc 1 1 0 3 [i6 0] [],[]⟩,MV 8 18]).seq (((C.ops [MC 9 (i6 0)]).seq (C.block 0 (((C.ops [MV 19 9,MV 20 2,O1
 21 .len 20,BI 22 .lss 19 21]).seq (C.cond (.t 22) C.skip (C.exit 0))).seq ((C.block 1 ((C.ops [MV 25 0,MV 26 2,MV 27 9,O2 28 (.idxA 1) 26 27,LD 29 28,O2 30 (.call 165 true)
 25 29,MV 31 1,O1 32 (.call 167 true) 31,MV 33 2,MV 34 9,O2 35 (.idxA 1) 33 34,LD 36 35,O2 37 (.call 165 true) 32 36,MV 10 30,MV 11 37]).seq (((C.ops [MV 38 10,BC 39 .lss
 38 (i6 0),MV 40 39,MG 41 40 true 11,PC 42 40 true (.bin .lss) 41 (i6 0),PF 43 40 42]).seq (C.cond (.t 43) ((C.ops [ON 6 (.nilo 0 1 3) [],MC 7 (i6 6)]).seq C.ret) C.skip)).seq
 (((C.ops [MV 44 2,MV 45 9,O2 46 (.slc 1 false true) 44 45,MV 47 2,MV 48 9,O2 49 (.idxA 1) 47 48,LD 50 49,O2 51 (.call 165 true) 46 50,BC 52 .geq 51 (i6 0)]).seq (C.cond (.t
 52) ((C.ops [ON 6 (.nilo 0 1 3) [],MC 7 (i6 7)]).seq C.ret) C.skip)).seq ((C.ops [MV 53 10,BC 54 .geq 53 (i6 0)]).seq (C.cond (.t 54) (C.ops [MV 55 8,MV 56 10,⟨some 57,none,
 .bslc 2 1 1 3 [i6 0] [(0,1)],[.t 56]⟩,O2 58 (.app 3 1 3 8) 55 57,MV 8 58]) (C.ops [MV 59 8,MV 60 1,MV 61 11,O2 62 (.idxA 2) 60 61,O1 63 (.fldA 1) 62,LD 64 63,O2 65 (.app
 4 1 3 8) 59 64,MV 8 65]))))))).seq (C.ops [MV 23 9,BC 24 .add 23 (i6 1),MV 9 24]))).loop)).seq ((C.ops [⟨some 66,none,.bslc 5 1 0 3 [i6 0] [],[]⟩,MV 12 66]).seq (((C.ops [MC
 13 (i6 0)]).seq (C.block 2 (((C.ops [MV 67 13,MV 68 0,O1 69 .len 68,BI 70 .lss 67 69]).seq (C.cond (.t 70) C.skip (C.exit 2))).seq ((C.block 3 ((C.ops [MV 73 8,MV 74 13,O2 75
 (.call 200 true) 73 74]).seq (C.cond (.t 75) (C.ops [MV 76 12,MV 77 13,⟨some 78,none,.bslc 6 1 1 3 [i6 0] [(0,1)],[.t 77]⟩,O2 79 (.app 7 1 3 8) 76 78,MV 12 79])
 C.skip))).seq (C.ops [MV 71 13,BC 72 .add 71 (i6 1),MV 13 72]))).loop)).seq ((C.ops [MV 80 12,MV 6 80,MC 7 (i6 0)]).seq
 C.ret)))))))
theorem qrW:qB Tryz.prog 144 81 8 [RV.tmp 6,RV.tmp 7] qtb:=fi Tryz.f144 [6,18,57,58,65,66,78,79] qv []
def qDk:C:=
 ((C.ops [MC 4 (.bool false)]).seq (((C.ops [MV 6 0,O1 7 .len 6,MV 8 1,O1 9 .len 8,BI 10 .neq 7 9]).seq (C.cond (.t 10) ((C.ops [MC 4 (.bool false)]).seq C.ret) C.skip)).seq
 (((C.ops [MC 5 (i6 0)]).seq (C.block 0 (((C.ops [MV 11 5,MV 12 0,O1 13 .len 12,BI 14 .lss 11 13]).seq (C.cond (.t 14) C.skip (C.exit 0))).seq ((C.block 1 ((C.ops [MV 17 0,MV 18
 5,O2 19 (.idxA 6) 17 18,O1 20 (.load (some 6)) 19,MV 21 1,MV 22 5,O2 23 (.idxA 6) 21 22,O1 24 (.load (some 6)) 23,O2 25 (.call 30 true) 20 24,O1 26 (.un UnOp.not) 25]).seq
 (C.cond (.t 26) ((C.ops [MC 4 (.bool false)]).seq C.ret) C.skip))).seq (C.ops [MV 15 5,BC 16 .add 15 (i6 1),MV 5 16]))).loop)).seq ((C.ops [MC 4 (.bool true)]).seq
 C.ret))))
theorem qCc:qB Tryz.prog 29 27 0 [RV.tmp 4] qDk:=fi Tryz.f29 [] qv []
def qBV:C:=
 ((C.ops [O1 5 (.box 0 58) 2,ON 6 (.nilo 1 1 3) [],MC 7 (i6 0)]).seq (((C.ops [MV 15 0,MV 16 1,O2 17 (.call 98 true) 15 16,BC 18 .neq 17 (i6 0)]).seq (C.cond (.t 18) ((C.ops
 [ON 6 (.nilo 1 1 3) [],MC 7 (i6 1)]).seq C.ret) C.skip)).seq ((C.ops [⟨some 19,none,.bslc 2 1 0 3 [i6 0] [],[]⟩,MV 8 19]).seq ((C.ops [MC 9 (.bool false)]).seq (((C.ops [MC 10
 (i6 0)]).seq (C.block 0 (((C.ops [MV 20 10,O1 21 (.fldA 5) 5,LD 22 21,O1 23 .len 22,BI 24 .lss 20 23]).seq (C.cond (.t 24) C.skip (C.exit 0))).seq ((C.block 1 ((C.ops [MV 28 0,
 MV 29 1,O1 30 (.fldA 5) 5,LD 31 30,MV 32 10,O2 33 (.idxA 2) 31 32,O1 34 (.fldA 1) 33,LD 35 34,ON 36 (.call 144 true) [.t 28,.t 29,.t 35],MV 27 36,O1 37 (.ext 0) 27,O1
 38 (.ext 1) 27,MV 11 37,MV 12 38]).seq (((C.ops [MV 39 12,BC 40 .neq 39 (i6 0)]).seq (C.cond (.t 40) ((C.ops [MV 41 12,ON 6 (.nilo 1 1 3) [],MV 7 41]).seq C.ret) C.skip)).seq
 ((C.ops [MV 43 8,MV 44 11,O2 45 (.call 145 true) 43 44,MV 42 45,O1 46 (.ext 0) 42,O1 47 (.ext 1) 42,MV 13 46,MV 14 47]).seq ((C.ops [MV 48 9,MV 49 48,MG 50 49 false 13,P1
 51 49 false .len 50,PC 52 49 false (.bin .gtr) 51 (i6 0),PT 53 49 52,MV 9 53]).seq (C.ops [MV 55 8,MV 56 11,O2 57 (.call 146 true) 55 56,MV 54 57,O1 58 (.ext 0) 54,O1 59
 (.ext 1) 54,MV 8 58])))))).seq (C.ops [MV 25 10,BC 26 .add 25 (i6 1),MV 10 26]))).loop)).seq (((C.ops [MV 60 9]).seq (C.cond (.t 60) ((C.ops [ON 6 (.nilo 1 1 3) [],MC 7 (i6
 17)]).seq C.ret) C.skip)).seq ((C.ops [MV 61 8,MV 6 61,MC 7 (i6 0)]).seq
 C.ret)))))))
theorem qzQ:qB Tryz.prog 72 62 3 [RV.tmp 6,RV.tmp 7] qBV:=fi Tryz.f72 [5,6,19] qv []
def qBX:C:=
 ((C.ops [MC 4 (i6 0)]).seq (((C.ops [MV 8 0,O1 9 .len 8,BC 10 .gtr 9 (i6 32)]).seq (C.cond (.t 10) ((C.ops [MC 4 (i6 4)]).seq C.ret) C.skip)).seq (((C.ops [MC 5 (i6 0)]).seq
 (C.block 0 (((C.ops [MV 11 5,MV 12 0,O1 13 .len 12,BI 14 .lss 11 13]).seq (C.cond (.t 14) C.skip (C.exit 0))).seq ((C.block 1 (((C.ops [MV 17 0,MV 18 5,O2 19 (.idxA 1) 17 18,
 LD 20 19,O1 21 (.call 164 true) 20,O1 22 (.un UnOp.not) 21]).seq (C.cond (.t 22) ((C.ops [MC 4 (i6 14)]).seq C.ret) C.skip)).seq ((C.ops [MV 23 0,MV 24 5,O2 25 (.slc 1 false
 true) 23 24,MV 26 0,MV 27 5,O2 28 (.idxA 1) 26 27,LD 29 28,O2 30 (.call 165 true) 25 29,BC 31 .geq 30 (i6 0)]).seq (C.cond (.t 31) ((C.ops [MC 4 (i6 7)]).seq C.ret)
 C.skip)))).seq (C.ops [MV 15 5,BC 16 .add 15 (i6 1),MV 5 16]))).loop)).seq (((C.ops [MV 32 1,O1 33 .len 32,BC 34 .gtr 33 (i6 16)]).seq (C.cond (.t 34) ((C.ops [MC 4 (i6
 4)]).seq C.ret) C.skip)).seq (((C.ops [MC 6 (i6 0)]).seq (C.block 2 (((C.ops [MV 35 6,MV 36 1,O1 37 .len 36,BI 38 .lss 35 37]).seq (C.cond (.t 38) C.skip (C.exit 2))).seq
 ((C.block 3 (((C.ops [MV 41 1,MV 42 6,O2 43 (.idxA 2) 41 42,O1 44 (.fldA 0) 43,LD 45 44,O1 46 (.call 166 true) 45,O1 47 (.un UnOp.not) 46]).seq (C.cond (.t 47) ((C.ops [MC 4
 (i6 14)]).seq C.ret) C.skip)).seq (((C.ops [MV 48 0,MV 49 1,MV 50 6,O2 51 (.idxA 2) 49 50,O1 52 (.fldA 0) 51,LD 53 52,O2 54 (.call 165 true) 48 53,BC 55 .geq 54 (i6 0),MV
 56 55,MG 57 56 false 1,MG 58 56 false 6,P2 59 56 false (.slc 2 false true) 57 58,P1 60 56 false (.call 167 true) 59,MG 61 56 false 1,MG 62 56 false 6,P2 63 56 false (.idxA
 2) 61 62,P1 64 56 false (.fldA 0) 63,P1 65 56 false (.load none) 64,P2 66 56 false (.call 165 true) 60 65,PC 67 56 false (.bin .geq) 66 (i6 0),PT 68 56 67]).seq (C.cond (.t
 68) ((C.ops [MC 4 (i6 7)]).seq C.ret) C.skip)).seq (((C.ops [MV 69 1,MV 70 6,O2 71 (.idxA 2) 69 70,O1 72 (.fldA 1) 71,LD 73 72,O1 74 .len 73,BC 75 .eql 74 (i6 0)]).seq
 (C.cond (.t 75) ((C.ops [MC 4 (i6 5)]).seq C.ret) C.skip)).seq ((C.ops [MV 76 0,O1 77 .len 76,MV 78 1,MV 79 6,O2 80 (.idxA 2) 78 79,O1 81 (.fldA 1) 80,LD 82 81,O2 83 (.call
 168 true) 77 82,MV 7 83]).seq ((C.ops [MV 84 7,BC 85 .neq 84 (i6 0)]).seq (C.cond (.t 85) ((C.ops [MV 86 7,MV 4 86]).seq C.ret) C.skip))))))).seq (C.ops [MV 39 6,BC 40 .add 39
 (i6 1),MV 6 40]))).loop)).seq ((C.ops [MC 4 (i6 0)]).seq
 C.ret))))))
theorem qzT:qB Tryz.prog 98 87 0 [RV.tmp 4] qBX:=fi Tryz.f98 [] qv []
def qBy:C:=
 ((C.ops [O1 7 (.box 0 58) 3,MC 8 (i6 0)]).seq (((C.ops [MV 22 0,MV 23 1,O2 24 (.call 98 true) 22 23,BC 25 .neq 24 (i6 0)]).seq (C.cond (.t 25) ((C.ops [MC 8 (i6 1)]).seq C.ret)
 C.skip)).seq (((C.ops [MV 26 2,O1 27 .len 26,BC 28 .gtr 27 (i6 4096)]).seq (C.cond (.t 28) ((C.ops [MC 8 (i6 4)]).seq C.ret) C.skip)).seq (((C.ops [MC 9 (i6 0)]).seq (C.block 0
 (((C.ops [MV 29 9,MV 30 2,O1 31 .len 30,BI 32 .lss 29 31]).seq (C.cond (.t 32) C.skip (C.exit 0))).seq ((C.block 1 ((C.ops [MV 35 2,MV 36 9,O2 37 (.idxA 1) 35 36,LD 38 37,O1
 39 (.call 147 true) 38,O1 40 (.un UnOp.not) 39]).seq (C.cond (.t 40) ((C.ops [MC 8 (i6 11)]).seq C.ret) C.skip))).seq (C.ops [MV 33 9,BC 34 .add 33 (i6 1),MV 9 34]))).loop)).seq
 (((C.ops [O1 41 (.fldA 0) 7,LD 42 41,BC 43 .lss 42 (i6 0),MV 44 43,P1 45 44 false (.fldA 0) 7,P1 46 44 false (.load none) 45,PC 47 44 false (.bin .gtr) 46 (i6 15),PT 48 44
 47,MV 49 48,P1 50 49 false (.fldA 1) 7,P1 51 49 false (.load none) 50,PC 52 49 false (.bin .lss) 51 (i6 0),PT 53 49 52,MV 54 53,P1 55 54 false (.fldA 1) 7,P1 56 54 false
 (.load none) 55,P1 57 54 false (.fldA 2) 7,P1 58 54 false (.load none) 57,P2 59 54 false (.bin .gtr) 56 58,PT 60 54 59,MV 61 60,P1 62 61 false (.fldA 2) 7,P1 63 61 false
 (.load none) 62,MG 64 61 false 2,P1 65 61 false .len 64,P2 66 61 false (.bin .gtr) 63 65,PT 67 61 66]).seq (C.cond (.t 67) ((C.ops [MC 8 (i6 2)]).seq C.ret) C.skip)).seq
 (((C.ops [O1 68 (.fldA 4) 7,LD 69 68,O1 70 .len 69,BC 71 .gtr 70 (i6 0),MV 72 71,P1 73 72 true (.fldA 3) 7,P1 74 72 true (.load none) 73,P1 75 72 true (.un UnOp.not) 74,PF
 76 72 75]).seq (C.cond (.t 76) ((C.ops [MC 8 (i6 1)]).seq C.ret) C.skip)).seq (((C.ops [O1 77 (.fldA 5) 7,LD 78 77,O1 79 .len 78,BC 80 .eql 79 (i6 0)]).seq (C.cond (.t 80)
 ((C.ops [MC 8 (i6 5)]).seq C.ret) C.skip)).seq (((C.ops [MC 10 (i6 0)]).seq (C.block 2 (((C.ops [MV 81 10,O1 82 (.fldA 5) 7,LD 83 82,O1 84 .len 83,BI 85 .lss 81 84]).seq
 (C.cond (.t 85) C.skip (C.exit 2))).seq ((C.block 3 ((C.ops [O1 88 (.fldA 5) 7,LD 89 88,MV 90 10,O2 91 (.idxA 2) 89 90,O1 92 (.load (some 2)) 91,⟨some 11,none,.alloc 1 85
 [.nl,.nl],[]⟩,ST 2 11 92]).seq (((C.ops [MC 12 (i6 0)]).seq (C.block 4 (((C.ops [MV 93 12,O1 94 (.fldA 0) 11,LD 95 94,O1 96 .len 95,BI 97 .lss 93 96]).seq (C.cond (.t 97)
 C.skip (C.exit 4))).seq ((C.block 5 ((C.ops [O1 100 (.fldA 0) 11,LD 101 100,MV 102 12,O2 103 (.idxA 1) 101 102,LD 104 103,O1 105 (.call 147 true) 104,O1 106 (.un UnOp.not)
 105]).seq (C.cond (.t 106) ((C.ops [MC 8 (i6 11)]).seq C.ret) C.skip))).seq (C.ops [MV 98 12,BC 99 .add 98 (i6 1),MV 12 99]))).loop)).seq (((C.ops [O1 107 (.fldA 0) 11,LD 108
 107,MV 109 2,O1 110 (.fldA 1) 7,LD 111 110,O1 112 (.fldA 2) 7,LD 113 112,ON 114 (.slc 1 true true) [.t 109,.t 111,.t 113],O2 115 (.call 103 true) 108 114]).seq (C.cond (.t
 115) ((C.ops [MC 8 (i6 9)]).seq C.ret) C.skip)).seq (((C.ops [MC 13 (i6 0)]).seq (C.block 6 (((C.ops [MV 116 13,MV 117 10,BI 118 .lss 116 117]).seq (C.cond (.t 118) C.skip
 (C.exit 6))).seq ((C.block 7 ((C.ops [O1 121 (.fldA 0) 11,LD 122 121,O1 123 (.fldA 5) 7,LD 124 123,MV 125 13,O2 126 (.idxA 2) 124 125,O1 127 (.fldA 0) 126,LD 128 127,O2 129
 (.call 103 true) 122 128]).seq (C.cond (.t 129) ((C.ops [MC 8 (i6 7)]).seq C.ret) C.skip))).seq (C.ops [MV 119 13,BC 120 .add 119 (i6 1),MV 13 120]))).loop)).seq ((C.ops [O1 130
 (.fldA 1) 11,LD 131 130,O1 132 .len 131,BC 133 .eql 132 (i6 0)]).seq (C.cond (.t 133) ((C.ops [MC 8 (i6 5)]).seq C.ret) C.skip))))))).seq (C.ops [MV 86 10,BC 87 .add 86 (i6 1),
 MV 10 87]))).loop)).seq ((C.ops [MV 135 0,MV 136 1,O1 137 (.fldA 4) 7,LD 138 137,ON 139 (.call 144 true) [.t 135,.t 136,.t 138],MV 134 139,O1 140 (.ext 0) 134,O1 141 (.ext
 1) 134,MV 14 140,MV 15 141]).seq (((C.ops [MV 142 15,BC 143 .neq 142 (i6 0)]).seq (C.cond (.t 143) ((C.ops [MV 144 15,MV 8 144]).seq C.ret) C.skip)).seq ((C.ops [MC 16 (.bool
 false)]).seq (((C.ops [MC 17 (i6 0)]).seq (C.block 8 (((C.ops [MV 145 17,O1 146 (.fldA 5) 7,LD 147 146,O1 148 .len 147,BI 149 .lss 145 148]).seq (C.cond (.t 149) C.skip (C.exit
 8))).seq ((C.block 9 ((C.ops [MV 153 0,MV 154 1,O1 155 (.fldA 5) 7,LD 156 155,MV 157 17,O2 158 (.idxA 2) 156 157,O1 159 (.fldA 1) 158,LD 160 159,ON 161 (.call 144 true) [.t
 153,.t 154,.t 160],MV 152 161,O1 162 (.ext 0) 152,O1 163 (.ext 1) 152,MV 18 162,MV 19 163]).seq (((C.ops [MV 164 19,BC 165 .neq 164 (i6 0)]).seq (C.cond (.t 165) ((C.ops
 [MV 166 19,MV 8 166]).seq C.ret) C.skip)).seq ((C.ops [MV 168 14,MV 169 18,O2 170 (.call 145 true) 168 169,MV 167 170,O1 171 (.ext 0) 167,O1 172 (.ext 1) 167,MV 20 171,MV
 21 172]).seq ((C.ops [MV 173 16,MV 174 173,MG 175 174 false 20,P1 176 174 false .len 175,PC 177 174 false (.bin .gtr) 176 (i6 0),PT 178 174 177,MV 16 178]).seq (C.ops [MV 180
 14,MV 181 18,O2 182 (.call 146 true) 180 181,MV 179 182,O1 183 (.ext 0) 179,O1 184 (.ext 1) 179,MV 14 183])))))).seq (C.ops [MV 150 17,BC 151 .add 150 (i6 1),MV 17
 151]))).loop)).seq (((C.ops [MV 185 16]).seq (C.cond (.t 185) ((C.ops [MC 8 (i6 17)]).seq C.ret) C.skip)).seq ((C.ops [MC 8 (i6 0)]).seq
 C.ret))))))))))))))
theorem qum:qB Tryz.prog 73 186 2 [RV.tmp 8] qBy:=fi Tryz.f73 [7,11] qv []
def qw9:C:=
 ((C.ops [MC 4 (i6 0)]).seq (((C.ops [MC 5 (i6 0)]).seq (C.block 0 (((C.ops [MV 6 5,MV 7 0,O1 8 .len 7,BI 9 .lss 6 8]).seq (C.cond (.t 9) C.skip (C.exit 0))).seq ((C.block 1
 ((C.ops [MV 12 0,MV 13 5,O2 14 (.idxA 1) 12 13,LD 15 14,MV 16 1,BI 17 .eql 15 16]).seq (C.cond (.t 17) ((C.ops [MV 18 5,MV 4 18]).seq C.ret) C.skip))).seq (C.ops [MV 10 5,BC
 11 .add 10 (i6 1),MV 5 11]))).loop)).seq ((C.ops [MC 4 (i6 (-1))]).seq
 C.ret)))
theorem qyO:qB Tryz.prog 165 19 0 [RV.tmp 4] qw9:=fi Tryz.f165 [] qv []
def qxa:C:=
 ((C.ops [ON 2 (.nilo 0 1 9) []]).seq ((C.ops [⟨some 5,none,.bslc 1 1 0 9 [.str []] [],[]⟩,MV 3 5]).seq (((C.ops [MC 4 (i6 0)]).seq (C.block 0 (((C.ops [MV 6 4,MV 7 0,O1 8
 .len 7,BI 9 .lss 6 8]).seq (C.cond (.t 9) C.skip (C.exit 0))).seq ((C.block 1 (C.ops [MV 12 3,MV 13 0,MV 14 4,O2 15 (.idxA 2) 13 14,O1 16 (.fldA 0) 15,LD 17 16,⟨some 18,
 none,.bslc 2 1 1 9 [.str []] [(0,1)],[.t 17]⟩,O2 19 (.app 3 1 9 16) 12 18,MV 3 19])).seq (C.ops [MV 10 4,BC 11 .add 10 (i6 1),MV 4 11]))).loop)).seq ((C.ops [MV 20 3,MV 2
 20]).seq
 C.ret))))
theorem qyP:qB Tryz.prog 167 21 4 [RV.tmp 2] qxa:=fi Tryz.f167 [2,5,18,19] qv []
def qxl:C:=
 ((C.ops [MC 4 (.bool false)]).seq (((C.ops [MC 5 (i6 0)]).seq (C.block 0 (((C.ops [MV 6 5,MV 7 0,O1 8 .len 7,BI 9 .lss 6 8]).seq (C.cond (.t 9) C.skip (C.exit 0))).seq ((C.block
 1 ((C.ops [MV 12 0,MV 13 5,O2 14 (.idxA 1) 12 13,LD 15 14,MV 16 1,BI 17 .eql 15 16]).seq (C.cond (.t 17) ((C.ops [MC 4 (.bool true)]).seq C.ret) C.skip))).seq (C.ops [MV 10 5,
 BC 11 .add 10 (i6 1),MV 5 11]))).loop)).seq ((C.ops [MC 4 (.bool false)]).seq
 C.ret)))
theorem qy2:qB Tryz.prog 200 18 0 [RV.tmp 4] qxl:=fi Tryz.f200 [] qv []
def qs8:C:=
 ((C.ops [MC 4 (i6 0)]).seq (((C.ops [MV 10 0,O1 11 .len 10,BC 12 .gtr 11 (i6 32)]).seq (C.cond (.t 12) ((C.ops [MC 4 (i6 4)]).seq C.ret) C.skip)).seq (((C.ops [MV 13 0,O1 14
 .len 13,MC 15 (i6 0)]).seq (C.block 0 ((C.ops [BI 16 .lss 15 14]).seq ((C.cond (.t 16) C.skip (C.exit 0)).seq ((C.block 1 ((C.ops [MV 17 15,O2 18 (.idxA 1) 13 15,LD 19 18,MV 5
 17,MV 6 19]).seq (((C.ops [MV 20 6,O1 21 (.call 185 true) 20,O1 22 (.un UnOp.not) 21]).seq (C.cond (.t 22) ((C.ops [MC 4 (i6 14)]).seq C.ret) C.skip)).seq ((C.ops [MV 23 0,MV
 24 5,O2 25 (.slc 1 false true) 23 24,MV 26 6,O2 27 (.call 43 true) 25 26]).seq (C.cond (.t 27) ((C.ops [MC 4 (i6 7)]).seq C.ret) C.skip))))).seq (C.ops [BC 28 .add 15 (i6 1),MV
 15 28])))).loop)).seq (((C.ops [MV 29 1,O1 30 .len 29,BC 31 .gtr 30 (i6 16)]).seq (C.cond (.t 31) ((C.ops [MC 4 (i6 4)]).seq C.ret) C.skip)).seq (((C.ops [MV 32 1,O1 33 .len 32,
 MC 34 (i6 0)]).seq (C.block 2 ((C.ops [BI 35 .lss 34 33]).seq ((C.cond (.t 35) C.skip (C.exit 2)).seq ((C.block 3 ((C.ops [MV 36 34,O2 37 (.idxA 2) 32 34,O1 38 (.load (some 2))
 37,⟨some 8,none,.alloc 0 167 [.str [],.nl],[]⟩,MV 7 36,ST 2 8 38]).seq ((C.block 4 ((C.ops [O1 40 (.fldA 0) 8,LD 41 40,O1 42 (.call 186 true) 41,O1 43 (.un UnOp.not) 42,
 MV 39 43]).seq (C.cond (.t 39) ((C.ops [MC 4 (i6 14)]).seq C.ret) ((C.ops [MV 45 0,O1 46 (.fldA 0) 8,LD 47 46,O2 48 (.call 43 true) 45 47,MV 49 48,MG 50 49 false 1,MG 51 49
 false 7,P2 52 49 false (.slc 2 false true) 50 51,P1 53 49 false (.mkfn (Fn.func 188) 0) 8,P2 54 49 false (.call 187 true) 52 53,PT 55 49 54,MV 44 55]).seq (C.cond (.t 44)
 ((C.ops [MC 4 (i6 7)]).seq C.ret) ((C.ops [O1 57 (.fldA 1) 8,LD 58 57,O1 59 .len 58,BC 60 .eql 59 (i6 0),MV 56 60]).seq (C.cond (.t 56) ((C.ops [MC 4 (i6 5)]).seq C.ret)
 C.skip))))))).seq ((C.ops [O1 61 (.fldA 1) 8,LD 62 61,MV 63 0,O1 64 .len 63,O2 65 (.call 189 true) 62 64,MV 9 65]).seq ((C.ops [MV 66 9,BC 67 .neq 66 (i6 0)]).seq (C.cond (.t
 67) ((C.ops [MV 68 9,MV 4 68]).seq C.ret) C.skip)))))).seq (C.ops [BC 69 .add 34 (i6 1),MV 34 69])))).loop)).seq ((C.ops [MC 4 (i6 0)]).seq
 C.ret))))))
theorem qrQ:qB Tryz.prog 122 70 1 [RV.tmp 4] qs8:=fi Tryz.f122 [8] qv []
def qBR:C:=
 ((C.ops [ON 6 (.nilo 0 1 3) [],MC 7 (i6 0)]).seq (((C.ops [MV 13 0,MV 14 1,O2 15 (.call 122 true) 13 14,BC 16 .neq 15 (i6 0)]).seq (C.cond (.t 16) ((C.ops [ON 6 (.nilo 0 1 3)
 [],MC 7 (i6 1)]).seq C.ret) C.skip)).seq ((C.ops [MC 8 (.int .u64 0)]).seq (((C.ops [MV 17 2,O1 18 .len 17,MC 19 (i6 0)]).seq (C.block 0 ((C.ops [BI 20 .lss 19 18]).seq ((C.cond
 (.t 20) C.skip (C.exit 0)).seq ((C.block 1 ((C.ops [MV 21 19,O2 22 (.idxA 1) 17 19,LD 23 22,⟨some 10,none,.alloc 1 9 [.str []],[]⟩,MV 9 21,ST 1 10 23]).seq ((C.ops [MV 24
 0,LD 25 10,O2 26 (.call 117 true) 24 25,MV 11 26]).seq ((C.ops [MV 27 1,O1 28 (.mkfn (Fn.func 124) 0) 10,O2 29 (.call 123 true) 27 28,MV 12 29]).seq (C.block 2 ((C.ops [MV 39
 11,BC 40 .lss 39 (i6 0),MV 41 40,MG 42 41 true 12,PC 43 41 true (.bin .lss) 42 (i6 0),PF 44 41 43,MV 38 44]).seq (C.cond (.t 38) ((C.ops [ON 6 (.nilo 0 1 3) [],MC 7 (i6
 6)]).seq C.ret) ((C.ops [MV 46 2,MV 47 9,O2 48 (.slc 1 false true) 46 47,LD 49 10,O2 50 (.call 43 true) 48 49,MV 45 50]).seq (C.cond (.t 45) ((C.ops [ON 6 (.nilo 0 1 3) [],MC
 7 (i6 7)]).seq C.ret) ((C.ops [MV 52 11,BC 53 .geq 52 (i6 0),MV 51 53]).seq (C.cond (.t 51) (C.ops [MV 54 8,MV 55 11,ON 56 (.bin .shl) [.c (.int .u64 1),.t 55],BI 57 .or 54
 56,MV 8 57]) (C.ops [MV 30 8,MV 31 1,MV 32 12,O2 33 (.idxA 2) 31 32,O1 34 (.fldA 1) 33,LD 35 34,O1 36 (.call 125 true) 35,BI 37 .or 30 36,MV 8 37])))))))))))).seq (C.ops
 [BC 58 .add 19 (i6 1),MV 19 58])))).loop)).seq ((C.ops [MV 59 8,O1 60 (.call 126 true) 59,MV 6 60,MC 7 (i6 0)]).seq
 C.ret)))))
theorem qzM:qB Tryz.prog 50 61 2 [RV.tmp 6,RV.tmp 7] qBR:=fi Tryz.f50 [6,10] qv []
def qs2:C:=
 ((C.ops [ON 6 (.nilo 0 1 9) [],MC 7 (i6 0)]).seq ((C.ops [MV 16 0,MV 17 1,MV 18 2,ON 19 (.call 169 true) [.t 16,.t 17,.t 18],MV 15 19,O1 20 (.ext 0) 15,O1 21 (.ext 1) 15,
 MV 8 20,MV 9 21]).seq (((C.ops [MV 22 9,BC 23 .neq 22 (i6 0)]).seq (C.cond (.t 23) ((C.ops [MV 24 9,ON 6 (.nilo 0 1 9) [],MV 7 24]).seq C.ret) C.skip)).seq ((C.ops [MV 25 1,MV
 26 8,MV 27 2,ON 28 (.call 170 true) [.t 25,.t 26,.c (i6 0),.t 27],MV 10 28]).seq (((C.ops [MC 11 (i6 1)]).seq (C.block 0 (((C.ops [MV 29 11,MV 30 8,O1 31 .len 30,ON 32
 (.bin .shl) [.c (i6 1),.t 31],BI 33 .lss 29 32]).seq (C.cond (.t 33) C.skip (C.exit 0))).seq ((C.block 1 ((C.ops [MV 36 1,MV 37 8,MV 38 11,MV 39 2,ON 40 (.call 170 true) [.t
 36,.t 37,.t 38,.t 39],MV 12 40]).seq ((C.ops [MV 41 12,MV 42 10,O2 43 (.call 171 true) 41 42]).seq (C.cond (.t 43) (C.ops [MV 44 12,MV 10 44]) C.skip)))).seq (C.ops [MV 34
 11,BC 35 .add 34 (i6 1),MV 11 35]))).loop)).seq ((C.ops [⟨some 45,none,.bslc 1 1 0 9 [.str []] [],[]⟩,MV 13 45]).seq (((C.ops [MC 14 (i6 0)]).seq (C.block 2 (((C.ops [MV 46
 14,MV 47 10,O1 48 .len 47,BI 49 .lss 46 48]).seq (C.cond (.t 49) C.skip (C.exit 2))).seq ((C.block 3 ((C.ops [MV 52 10,MV 53 14,O2 54 (.idxA 1) 52 53,LD 55 54,MV 56 1,O1 57
 .len 56,BI 58 .lss 55 57]).seq (C.cond (.t 58) (C.ops [MV 59 13,MV 60 1,MV 61 10,MV 62 14,O2 63 (.idxA 1) 61 62,LD 64 63,O2 65 (.idxA 2) 60 64,O1 66 (.fldA 0) 65,LD 67 66,
 ⟨some 68,none,.bslc 2 1 1 9 [.str []] [(0,1)],[.t 67]⟩,O2 69 (.app 3 1 9 16) 59 68,MV 13 69]) (C.ops [MV 70 13,MV 71 0,MV 72 10,MV 73 14,O2 74 (.idxA 1) 72 73,LD 75 74,
 MV 76 1,O1 77 .len 76,BI 78 .sub 75 77,O2 79 (.idxA 1) 71 78,LD 80 79,⟨some 81,none,.bslc 4 1 1 9 [.str []] [(0,1)],[.t 80]⟩,O2 82 (.app 5 1 9 16) 70 81,MV 13
 82])))).seq (C.ops [MV 50 14,BC 51 .add 50 (i6 1),MV 14 51]))).loop)).seq ((C.ops [MV 83 13,MV 6 83,MC 7 (i6 0)]).seq
 C.ret))))))))
theorem qrI:qB Tryz.prog 102 84 6 [RV.tmp 6,RV.tmp 7] qs2:=fi Tryz.f102 [6,45,68,69,81,82] qv []
def qDl:C:=
 ((C.ops [O1 2 (.box 0 58) 0,O1 3 (.box 1 58) 1,MC 4 (.bool false)]).seq (((C.ops [O1 6 (.fldA 0) 2,LD 7 6,O1 8 (.fldA 0) 3,LD 9 8,BI 10 .neq 7 9,MV 11 10,P1 12 11 false
 (.fldA 1) 2,P1 13 11 false (.load none) 12,P1 14 11 false (.fldA 1) 3,P1 15 11 false (.load none) 14,P2 16 11 false (.bin .neq) 13 15,PT 17 11 16,MV 18 17,P1 19 18 false
 (.fldA 2) 2,P1 20 18 false (.load none) 19,P1 21 18 false (.fldA 2) 3,P1 22 18 false (.load none) 21,P2 23 18 false (.bin .neq) 20 22,PT 24 18 23,MV 25 24,P1 26 25 false
 (.fldA 3) 2,P1 27 25 false (.load none) 26,P1 28 25 false (.fldA 3) 3,P1 29 25 false (.load none) 28,P2 30 25 false (.bool true) 27 29,PT 31 25 30,MV 32 31,P1 33 32 false
 (.fldA 4) 2,P1 34 32 false (.load none) 33,P1 35 32 false (.fldA 4) 3,P1 36 32 false (.load none) 35,P2 37 32 false (.call 103 true) 34 36,P1 38 32 false (.un UnOp.not) 37,PT
 39 32 38,MV 40 39,P1 41 40 false (.fldA 5) 2,P1 42 40 false (.load none) 41,P1 43 40 false .len 42,P1 44 40 false (.fldA 5) 3,P1 45 40 false (.load none) 44,P1 46 40 false
 .len 45,P2 47 40 false (.bin .neq) 43 46,PT 48 40 47]).seq (C.cond (.t 48) ((C.ops [MC 4 (.bool false)]).seq C.ret) C.skip)).seq (((C.ops [MC 5 (i6 0)]).seq (C.block 0 (((C.ops
 [MV 49 5,O1 50 (.fldA 5) 2,LD 51 50,O1 52 .len 51,BI 53 .lss 49 52]).seq (C.cond (.t 53) C.skip (C.exit 0))).seq ((C.block 1 ((C.ops [O1 56 (.fldA 5) 2,LD 57 56,MV 58 5,O2
 59 (.idxA 2) 57 58,O1 60 (.fldA 0) 59,LD 61 60,O1 62 (.fldA 5) 3,LD 63 62,MV 64 5,O2 65 (.idxA 2) 63 64,O1 66 (.fldA 0) 65,LD 67 66,O2 68 (.call 103 true) 61 67,O1 69
 (.un UnOp.not) 68,MV 70 69,P1 71 70 false (.fldA 5) 2,P1 72 70 false (.load none) 71,MG 73 70 false 5,P2 74 70 false (.idxA 2) 72 73,P1 75 70 false (.fldA 1) 74,P1 76 70
 false (.load none) 75,P1 77 70 false (.fldA 5) 3,P1 78 70 false (.load none) 77,MG 79 70 false 5,P2 80 70 false (.idxA 2) 78 79,P1 81 70 false (.fldA 1) 80,P1 82 70 false
 (.load none) 81,P2 83 70 false (.call 103 true) 76 82,P1 84 70 false (.un UnOp.not) 83,PT 85 70 84]).seq (C.cond (.t 85) ((C.ops [MC 4 (.bool false)]).seq C.ret) C.skip))).seq
 (C.ops [MV 54 5,BC 55 .add 54 (i6 1),MV 5 55]))).loop)).seq ((C.ops [MC 4 (.bool true)]).seq
 C.ret))))
theorem qCd:qB Tryz.prog 30 86 2 [RV.tmp 4] qDl:=fi Tryz.f30 [2,3] qv []
theorem qrP:qB Tryz.prog 121 19 0 [RV.tmp 4] (cIF 6 (some 6)):=fi Tryz.f121 [] qv []
def qw3:C:=
 ((C.ops [ON 4 (.nilo 0 1 3) [],MC 5 (i6 0)]).seq (((C.ops [MV 8 0,MV 9 1,O2 10 (.call 201 true) 8 9]).seq (C.cond (.t 10) ((C.ops [ON 4 (.nilo 0 1 3) [],MC 5 (i6 1)]).seq
 C.ret) C.skip)).seq ((C.ops [⟨some 11,none,.bslc 1 1 0 3 [i6 0] [],[]⟩,MV 6 11]).seq (((C.ops [MC 7 (i6 0)]).seq (C.block 0 (((C.ops [MV 12 7,MV 13 0,O1 14 .len 13,BI 15
 .lss 12 14]).seq (C.cond (.t 15) C.skip (C.exit 0))).seq ((C.block 1 ((C.ops [MV 18 1,MV 19 0,MV 20 7,O2 21 (.idxA 1) 19 20,LD 22 21,O2 23 (.call 202 true) 18 22]).seq (C.cond
 (.t 23) (C.ops [MV 24 6,MV 25 0,MV 26 7,O2 27 (.idxA 1) 25 26,LD 28 27,⟨some 29,none,.bslc 2 1 1 3 [i6 0] [(0,1)],[.t 28]⟩,O2 30 (.app 3 1 3 8) 24 29,MV 6 30])
 C.skip))).seq (C.ops [MV 16 7,BC 17 .add 16 (i6 1),MV 7 17]))).loop)).seq ((C.ops [MV 31 6,MV 4 31,MC 5 (i6 0)]).seq
 C.ret)))))
theorem qyI:qB Tryz.prog 145 32 4 [RV.tmp 4,RV.tmp 5] qw3:=fi Tryz.f145 [4,11,29,30] qv []
def qw4:C:=
 ((C.ops [ON 4 (.nilo 0 1 3) [],MC 5 (i6 0)]).seq (((C.ops [MV 8 0,MV 9 1,O2 10 (.call 201 true) 8 9]).seq (C.cond (.t 10) ((C.ops [ON 4 (.nilo 0 1 3) [],MC 5 (i6 1)]).seq
 C.ret) C.skip)).seq ((C.ops [⟨some 11,none,.bslc 1 1 0 3 [i6 0] [],[]⟩,MV 6 11]).seq (((C.ops [MC 7 (i6 0)]).seq (C.block 0 (((C.ops [MV 12 7,BC 13 .lss 12 (i6 64)]).seq
 (C.cond (.t 13) C.skip (C.exit 0))).seq ((C.block 1 ((C.ops [MV 16 0,MV 17 7,O2 18 (.call 202 true) 16 17,MV 19 18,MG 20 19 false 1,MG 21 19 false 7,P2 22 19 false (.call 202
 true) 20 21,PT 23 19 22]).seq (C.cond (.t 23) (C.ops [MV 24 6,MV 25 7,⟨some 26,none,.bslc 2 1 1 3 [i6 0] [(0,1)],[.t 25]⟩,O2 27 (.app 3 1 3 8) 24 26,MV 6 27])
 C.skip))).seq (C.ops [MV 14 7,BC 15 .add 14 (i6 1),MV 7 15]))).loop)).seq ((C.ops [MV 28 6,MV 4 28,MC 5 (i6 0)]).seq
 C.ret)))))
theorem qyJ:qB Tryz.prog 146 29 4 [RV.tmp 4,RV.tmp 5] qw4:=fi Tryz.f146 [4,11,26,27] qv []
def qDo:C:=
 ((C.ops [MC 4 (.bool false)]).seq (((C.ops [MC 5 (i6 0)]).seq (C.block 0 (((C.ops [MV 7 5,MV 8 0,O1 9 .len 8,BI 10 .lss 7 9]).seq (C.cond (.t 10) C.skip (C.exit 0))).seq
 ((C.block 1 ((C.ops [MV 13 0,MV 14 5,O2 15 (.idxA 1) 13 14,LD 16 15,O1 17 .slen 16,BC 18 .gtr 17 (i6 20)]).seq (C.cond (.t 18) ((C.ops [MC 4 (.bool true)]).seq C.ret)
 C.skip))).seq (C.ops [MV 11 5,BC 12 .add 11 (i6 1),MV 5 12]))).loop)).seq (((C.ops [MC 6 (i6 0)]).seq (C.block 2 (((C.ops [MV 19 6,MV 20 1,O1 21 .len 20,BI 22 .lss 19 21]).seq
 (C.cond (.t 22) C.skip (C.exit 2))).seq ((C.block 3 ((C.ops [MV 25 1,MV 26 6,O2 27 (.idxA 2) 25 26,O1 28 (.fldA 0) 27,LD 29 28,O1 30 .slen 29,BC 31 .gtr 30 (i6 20),MV 32 31,
 MG 33 32 false 1,MG 34 32 false 6,P2 35 32 false (.idxA 2) 33 34,P1 36 32 false (.fldA 1) 35,P1 37 32 false (.load none) 36,P1 38 32 false .len 37,PC 39 32 false (.bin .gtr)
 38 (i6 40),PT 40 32 39]).seq (C.cond (.t 40) ((C.ops [MC 4 (.bool true)]).seq C.ret) C.skip))).seq (C.ops [MV 23 6,BC 24 .add 23 (i6 1),MV 6 24]))).loop)).seq ((C.ops [MV 41 0,
 O1 42 .len 41,BC 43 .gtr 42 (i6 8),MV 44 43,MG 45 44 true 0,P1 46 44 true .len 45,PC 47 44 true (.bin .leq) 46 (i6 32),PF 48 44 47,MV 49 48,MG 50 49 false 0,P1 51 49 false
 .len 50,PC 52 49 false (.bin .gtr) 51 (i6 34),PT 53 49 52,MV 54 53,MG 55 54 false 1,P1 56 54 false .len 55,PC 57 54 false (.bin .gtr) 56 (i6 5),MG 58 54 false 57,MG 59 58
 true 1,P1 60 58 true .len 59,PC 61 58 true (.bin .leq) 60 (i6 16),QF 62 54 false 58 61,PT 63 54 62,MV 64 63,MG 65 64 false 1,P1 66 64 false .len 65,PC 67 64 false (.bin
 .gtr) 66 (i6 18),PT 68 64 67,MV 4 68]).seq
 C.ret))))
theorem qCl:qB Tryz.prog 69 69 0 [RV.tmp 4] qDo:=fi Tryz.f69 [] qv []
def qBU:C:=
 ((C.ops [MC 2 (.bool false)]).seq (((C.ops [MC 3 (i6 0)]).seq (C.block 0 (((C.ops [MV 4 3,MV 5 0,O1 6 .len 5,BI 7 .lss 4 6,MV 8 7,MG 9 8 true 0,P1 10 8 true .len 9,PC 11 8
 true (.bin .leq) 10 (i6 10),PF 12 8 11]).seq (C.cond (.t 12) C.skip (C.exit 0))).seq ((C.block 1 ((C.ops [MV 15 0,MV 16 3,O2 17 (.idxA 6) 15 16,O1 18 (.load (some 6)) 17,O1 19
 (.call 143 true) 18]).seq (C.cond (.t 19) ((C.ops [MC 2 (.bool true)]).seq C.ret) C.skip))).seq (C.ops [MV 13 3,BC 14 .add 13 (i6 1),MV 3 14]))).loop)).seq ((C.ops [MV 20 0,O1
 21 .len 20,BC 22 .gtr 21 (i6 10),MV 2 22]).seq
 C.ret)))
theorem qzP:qB Tryz.prog 71 23 0 [RV.tmp 2] qBU:=fi Tryz.f71 [] qv []
def qhZ:C:=
 ((C.ops [O1 7 (.box 0 58) 3,MC 8 (i6 0)]).seq ((C.block 0 ((C.ops [MV 17 0,MV 18 1,O2 19 (.call 122 true) 17 18,BC 20 .neq 19 (i6 0),MV 16 20]).seq (C.cond (.t 16) ((C.ops [MC
 8 (i6 1)]).seq C.ret) ((C.ops [MV 22 2,O1 23 .len 22,BC 24 .gtr 23 (i6 4096),MV 21 24]).seq (C.cond (.t 21) ((C.ops [MC 8 (i6 4)]).seq C.ret) ((C.ops [MV 26 2,O1 27 (.call 138
 true) 26,BC 28 .neq 27 (i6 0),MV 25 28]).seq (C.cond (.t 25) ((C.ops [MC 8 (i6 11)]).seq C.ret) ((C.ops [O1 30 (.fldA 0) 7,LD 31 30,BC 32 .lss 31 (i6 0),MV 33 32,P1 34 33
 false (.fldA 0) 7,P1 35 33 false (.load none) 34,PC 36 33 false (.bin .geq) 35 (i6 16),PT 37 33 36,MV 38 37,P1 39 38 false (.fldA 1) 7,P1 40 38 false (.load none) 39,PC 41
 38 false (.bin .lss) 40 (i6 0),PT 42 38 41,MV 43 42,P1 44 43 false (.fldA 1) 7,P1 45 43 false (.load none) 44,P1 46 43 false (.fldA 2) 7,P1 47 43 false (.load none) 46,P2 48
 43 false (.bin .gtr) 45 47,PT 49 43 48,MV 50 49,P1 51 50 false (.fldA 2) 7,P1 52 50 false (.load none) 51,MG 53 50 false 2,P1 54 50 false .len 53,P2 55 50 false (.bin .gtr)
 52 54,PT 56 50 55,MV 29 56]).seq (C.cond (.t 29) ((C.ops [MC 8 (i6 2)]).seq C.ret) ((C.ops [O1 58 (.fldA 4) 7,LD 59 58,O1 60 .len 59,BC 61 .gtr 60 (i6 0),MV 62 61,P1 63 62
 true (.fldA 3) 7,P1 64 62 true (.load none) 63,P1 65 62 true (.un UnOp.not) 64,PF 66 62 65,MV 57 66]).seq (C.cond (.t 57) ((C.ops [MC 8 (i6 1)]).seq C.ret) ((C.ops [O1 68
 (.fldA 5) 7,LD 69 68,O1 70 .len 69,BC 71 .eql 70 (i6 0),MV 67 71]).seq (C.cond (.t 67) ((C.ops [MC 8 (i6 5)]).seq C.ret) C.skip))))))))))))).seq (((C.ops [O1 72 (.fldA 5) 7,LD
 73 72,O1 74 .len 73,MC 75 (i6 0)]).seq (C.block 1 ((C.ops [BI 76 .lss 75 74]).seq ((C.cond (.t 76) C.skip (C.exit 1)).seq ((C.block 2 ((C.ops [MV 77 75,O2 78 (.idxA 2) 73 75,O1
 79 (.load (some 2)) 78,⟨some 10,none,.alloc 1 85 [.nl,.nl],[]⟩,MV 9 77,ST 2 10 79]).seq (C.block 3 ((C.ops [O1 81 (.fldA 0) 10,LD 82 81,O1 83 (.call 138 true) 82,BC 84
 .neq 83 (i6 0),MV 80 84]).seq (C.cond (.t 80) ((C.ops [MC 8 (i6 11)]).seq C.ret) ((C.ops [O1 86 (.fldA 0) 10,LD 87 86,MV 88 2,O1 89 (.fldA 1) 7,LD 90 89,O1 91 (.fldA 2) 7,LD
 92 91,ON 93 (.slc 1 true true) [.t 88,.t 90,.t 92],O2 94 (.call 139 true) 87 93,MV 85 94]).seq (C.cond (.t 85) ((C.ops [MC 8 (i6 9)]).seq C.ret) ((C.ops [O1 96 (.fldA 5) 7,LD
 97 96,MV 98 9,O2 99 (.slc 2 false true) 97 98,O1 100 (.mkfn (Fn.func 140) 0) 10,O2 101 (.call 56 true) 99 100,MV 95 101]).seq (C.cond (.t 95) ((C.ops [MC 8 (i6 7)]).seq C.ret)
 ((C.ops [O1 103 (.fldA 1) 10,LD 104 103,O1 105 .len 104,BC 106 .eql 105 (i6 0),MV 102 106]).seq (C.cond (.t 102) ((C.ops [MC 8 (i6 5)]).seq C.ret) C.skip))))))))))).seq (C.ops
 [BC 107 .add 75 (i6 1),MV 75 107])))).loop)).seq ((C.ops [⟨some 11,none,.alloc 2 174 [i6 0,i6 0,i6 0,i6 0,i6 0,i6 0,i6 0,i6 0,i6 0,i6 0,i6 0,i6 0,i6 0,i6 0,i6 0,
 i6 0,i6 0,i6 0,i6 0,i6 0,i6 0,i6 0,i6 0,i6 0,i6 0,i6 0,i6 0,i6 0,i6 0,i6 0,i6 0,i6 0],[]⟩]).seq (((C.ops [MV 108 0,MV 109 1,O1 110 (.fldA 4) 7,LD 111 110,ON
 112 (.call 132 false) [.t 108,.t 109,.t 111,.t 11],MV 12 112]).seq ((C.ops [MV 113 12,BC 114 .neq 113 (i6 0)]).seq (C.cond (.t 114) ((C.ops [MV 115 12,MV 8 115]).seq C.ret)
 C.skip))).seq (((C.ops [O1 116 (.fldA 5) 7,LD 117 116,O1 118 .len 117,MC 119 (i6 0)]).seq (C.block 4 ((C.ops [BI 120 .lss 119 118]).seq ((C.cond (.t 120) C.skip (C.exit 4)).seq
 ((C.block 5 ((C.ops [O2 121 (.idxA 2) 117 119,O1 122 (.load (some 2)) 121,⟨some 14,none,.alloc 3 85 [.nl,.nl],[]⟩,ST 2 14 122]).seq ((C.ops [MV 123 0,MV 124 1,O1 125
 (.fldA 1) 14,LD 126 125,ON 127 (.call 132 false) [.t 123,.t 124,.t 126,.t 11],MV 15 127]).seq ((C.ops [MV 128 15,BC 129 .neq 128 (i6 0)]).seq (C.cond (.t 129) ((C.ops [MV
 130 15,MV 8 130]).seq C.ret) C.skip))))).seq (C.ops [BC 131 .add 119 (i6 1),MV 119 131])))).loop)).seq (((C.ops [O1 132 (.load (some 32)) 11,O1 133 (.call 133 true) 132]).seq
 (C.cond (.t 133) ((C.ops [MC 8 (i6 17)]).seq C.ret) C.skip)).seq ((C.ops [MC 8 (i6 0)]).seq
 C.ret))))))))
theorem qb5:qB Tryz.prog 65 134 4 [RV.tmp 8] qhZ:=fi Tryz.f65 [7,10,11,14] qv []
def qkD:C:=
 ((C.ops [MC 2 (.bool false)]).seq (((C.ops [MV 4 0,O1 5 .slen 4,MV 3 5]).seq ((C.ops [MV 6 3,BC 7 .gtr 6 (i6 0),MV 8 7,MG 9 8 true 0,MG 10 8 true 3,PC 11 8 true (.bin .sub)
 10 (i6 1),P2 12 8 true .sidx 9 11,PC 13 8 true (.bin .eql) 12 (.int .u8 42),PF 14 8 13]).seq (C.cond (.t 14) ((C.ops [MV 15 3,BC 16 .leq 15 (i6 16),MV 17 16,MG 18 17 true 0,
 MG 19 17 true 3,PC 20 17 true (.bin .sub) 19 (i6 1),P2 21 17 true (.sslc false true) 18 20,P1 22 17 true (.call 166 true) 21,PF 23 17 22,MV 2 23]).seq C.ret) C.skip))).seq
 ((C.ops [MV 24 0,O1 25 (.call 166 true) 24,MV 2 25]).seq
 C.ret)))
theorem qg8:qB Tryz.prog 164 26 0 [RV.tmp 2] qkD:=fi Tryz.f164 [] qv []
def qxb:C:=
 ((C.ops [MC 4 (i6 0)]).seq (((C.ops [MC 5 (i6 0)]).seq (C.block 0 (((C.ops [MV 6 5,MV 7 1,O1 8 .len 7,BI 9 .lss 6 8]).seq (C.cond (.t 9) C.skip (C.exit 0))).seq ((C.block 1
 (((C.ops [MV 12 1,MV 13 5,O2 14 (.idxA 1) 12 13,LD 15 14,BC 16 .lss 15 (i6 0),MV 17 16,MG 18 17 false 1,MG 19 17 false 5,P2 20 17 false (.idxA 1) 18 19,P1 21 17 false
 (.load none) 20,MG 22 17 false 0,P2 23 17 false (.bin .geq) 21 22,PT 24 17 23]).seq (C.cond (.t 24) ((C.ops [MC 4 (i6 2)]).seq C.ret) C.skip)).seq ((C.ops [MV 25 5,BC 26 .gtr
 25 (i6 0),MV 27 26,MG 28 27 true 1,MG 29 27 true 5,P2 30 27 true (.idxA 1) 28 29,P1 31 27 true (.load none) 30,MG 32 27 true 1,MG 33 27 true 5,PC 34 27 true (.bin .sub) 33
 (i6 1),P2 35 27 true (.idxA 1) 32 34,P1 36 27 true (.load none) 35,P2 37 27 true (.bin .leq) 31 36,PF 38 27 37]).seq (C.cond (.t 38) ((C.ops [MC 4 (i6 10)]).seq C.ret)
 C.skip)))).seq (C.ops [MV 10 5,BC 11 .add 10 (i6 1),MV 5 11]))).loop)).seq ((C.ops [MC 4 (i6 0)]).seq
 C.ret)))
theorem qyQ:qB Tryz.prog 168 39 0 [RV.tmp 4] qxb:=fi Tryz.f168 [] qv []
def qtc:C:=
 ((C.ops [MC 2 (.bool false)]).seq ((C.ops [MV 3 0,⟨some 4,none,.build [.str [],.str [],i6 0] [(0,1)],[.t 3]⟩,O1 5 (.call 137 true) 4,BC 6 .eql 5 (i6 0),MV 2 6]).seq
 C.ret))
theorem qrX:qB Tryz.prog 147 7 0 [RV.tmp 2] qtc:=fi Tryz.f147 [] qv []
def qs3:C:=
 ((C.ops [MC 4 (.bool false)]).seq (((C.ops [MV 6 0,O1 7 .len 6,MV 8 1,O1 9 .len 8,BI 10 .neq 7 9]).seq (C.cond (.t 10) ((C.ops [MC 4 (.bool false)]).seq C.ret) C.skip)).seq
 (((C.ops [MC 5 (i6 0)]).seq (C.block 0 (((C.ops [MV 11 5,MV 12 0,O1 13 .len 12,BI 14 .lss 11 13]).seq (C.cond (.t 14) C.skip (C.exit 0))).seq ((C.block 1 ((C.ops [MV 17 0,MV 18
 5,O2 19 (.idxA 1) 17 18,LD 20 19,MV 21 1,MV 22 5,O2 23 (.idxA 1) 21 22,LD 24 23,BI 25 .neq 20 24]).seq (C.cond (.t 25) ((C.ops [MC 4 (.bool false)]).seq C.ret) C.skip))).seq
 (C.ops [MV 15 5,BC 16 .add 15 (i6 1),MV 5 16]))).loop)).seq ((C.ops [MC 4 (.bool true)]).seq
 C.ret))))
theorem qrJ:qB Tryz.prog 103 26 0 [RV.tmp 4] qs3:=fi Tryz.f103 [] qv []
def qkE:C:=
 ((C.ops [MC 2 (.bool false)]).seq ((C.ops [MV 6 0,OC 7 (.call 241 true) 6 (.str [42]),MV 5 7,O1 8 (.ext 0) 5,O1 9 (.ext 1) 5,MV 3 8,MV 4 9]).seq ((C.ops [MV 10 3,O1 11
 (.call 186 true) 10,MV 12 11,MG 13 12 true 4,P1 14 12 true (.un UnOp.not) 13,MG 15 12 true 14,MG 16 15 false 0,P1 17 15 false .slen 16,PC 18 15 false (.bin .leq) 17 (i6 16),
 QT 19 12 true 15 18,PF 20 12 19,MV 2 20]).seq
 C.ret)))
theorem qg9:qB Tryz.prog 185 21 0 [RV.tmp 2] qkE:=fi Tryz.f185 [] qv []
theorem qCf:qB Tryz.prog 43 9 0 [RV.tmp 4] (cCT 117):=fi Tryz.f43 [] qv []
theorem qyT:qB Tryz.prog 187 9 0 [RV.tmp 4] (cCT 123):=fi Tryz.f187 [] qv []
def qxe:C:=
 ((C.ops [O1 2 (.box 0 167) 0,MC 3 (.bool false)]).seq ((C.ops [O1 4 (.fldA 0) 2,LD 5 4,O1 6 (.fldA 0) 1,LD 7 6,BI 8 .eql 5 7,MV 3 8]).seq
 C.ret))
theorem qyU:qB Tryz.prog 188 9 1 [RV.tmp 3] qxe:=fi Tryz.f188 [2] qv []
def qxf:C:=
 ((C.ops [MC 4 (i6 0)]).seq (((C.ops [MV 7 0,O1 8 .len 7,MC 9 (i6 0)]).seq (C.block 0 ((C.ops [BI 10 .lss 9 8]).seq ((C.cond (.t 10) C.skip (C.exit 0)).seq ((C.block 1 ((C.ops [MV
 11 9,O2 12 (.idxA 1) 7 9,LD 13 12,MV 5 11,MV 6 13]).seq (((C.ops [MV 14 6,BC 15 .lss 14 (i6 0),MV 16 15,MG 17 16 false 6,MG 18 16 false 1,P2 19 16 false (.bin .geq) 17 18,
 PT 20 16 19]).seq (C.cond (.t 20) ((C.ops [MC 4 (i6 2)]).seq C.ret) C.skip)).seq ((C.ops [MV 21 5,BC 22 .gtr 21 (i6 0),MV 23 22,MG 24 23 true 6,MG 25 23 true 0,MG 26 23 true
 5,PC 27 23 true (.bin .sub) 26 (i6 1),P2 28 23 true (.idxA 1) 25 27,P1 29 23 true (.load none) 28,P2 30 23 true (.bin .leq) 24 29,PF 31 23 30]).seq (C.cond (.t 31) ((C.ops [MC
 4 (i6 10)]).seq C.ret) C.skip))))).seq (C.ops [BC 32 .add 9 (i6 1),MV 9 32])))).loop)).seq ((C.ops [MC 4 (i6 0)]).seq
 C.ret)))
theorem qyV:qB Tryz.prog 189 33 0 [RV.tmp 4] qxf:=fi Tryz.f189 [] qv []
def qwZ:C:=
 ((C.ops [MC 8 (i6 0)]).seq ((C.ops [MV 14 0,MV 15 1,MV 16 2,ON 17 (.call 50 true) [.t 14,.t 15,.t 16],MV 13 17,O1 18 (.ext 0) 13,O1 19 (.ext 1) 13,MV 9 18,MV 10 19]).seq
 (((C.ops [MV 20 9,O1 21 .len 20,MC 22 (i6 0)]).seq (C.block 0 ((C.ops [BI 23 .lss 22 21]).seq ((C.cond (.t 23) C.skip (C.exit 0)).seq ((C.block 1 ((C.ops [O2 24 (.idxA 1) 20 22,
 LD 25 24,MV 12 25]).seq (C.ops [MV 26 3,MV 27 12,O1 28 .nilchk 26,O2 29 (.idxArr 32 1) 28 27,LD 30 29,BC 31 .add 30 (i6 1),O1 32 .nilchk 26,O2 33 (.idxArr 32 1) 32 27,ST 1
 33 31]))).seq (C.ops [BC 34 .add 22 (i6 1),MV 22 34])))).loop)).seq ((C.ops [MV 35 10,MV 8 35]).seq
 C.ret))))
theorem qyE:qB Tryz.prog 132 36 0 [RV.tmp 8] qwZ:=fi Tryz.f132 [] qv []
def qtj:C:=
 ((C.ops [MC 6 (i6 0)]).seq (((C.ops [MV 7 0,MV 8 1,O2 9 (.call 122 true) 7 8,BC 10 .neq 9 (i6 0)]).seq (C.cond (.t 10) ((C.ops [MC 6 (i6 1)]).seq C.ret) C.skip)).seq ((C.ops [MV
 11 2,MV 12 0,O1 13 .len 12,O2 14 (.call 189 true) 11 13,MV 6 14]).seq
 C.ret)))
theorem qr4:qB Tryz.prog 196 15 0 [RV.tmp 6] qtj:=fi Tryz.f196 [] qv []
def qwX:C:=
 ((C.ops [MC 2 (.int .u64 0)]).seq ((C.ops [MC 3 (.int .u64 0)]).seq (((C.ops [MV 6 0,O1 7 .len 6,MC 8 (i6 0)]).seq (C.block 0 ((C.ops [BI 9 .lss 8 7]).seq ((C.cond (.t 9) C.skip
 (C.exit 0)).seq ((C.block 1 ((C.ops [O2 10 (.idxA 1) 6 8,LD 11 10,MV 5 11]).seq (C.ops [MV 12 3,MV 13 5,ON 14 (.bin .shl) [.c (.int .u64 1),.t 13],BI 15 .or 12 14,MV 3
 15]))).seq (C.ops [BC 16 .add 8 (i6 1),MV 8 16])))).loop)).seq ((C.ops [MV 17 3,MV 2 17]).seq
 C.ret))))
theorem qyB:qB Tryz.prog 125 18 0 [RV.tmp 2] qwX:=fi Tryz.f125 [] qv []
def qxi:C:=
 ((C.ops [ON 4 (.nilo 0 1 3) []]).seq ((C.ops [ON 5 (.nilo 1 1 3) []]).seq (((C.ops [MV 8 0,O1 9 .len 8,MC 10 (i6 0)]).seq (C.block 0 ((C.ops [BI 11 .lss 10 9]).seq ((C.cond (.t
 11) C.skip (C.exit 0)).seq ((C.block 1 ((C.ops [MV 12 10,O2 13 (.idxA 2) 8 10,O1 14 (.load (some 2)) 13,⟨some 7,none,.alloc 2 167 [.str [],.nl],[]⟩,MV 6 12,ST 2 7 14]).seq
 ((C.ops [O1 15 (.fldA 1) 7,LD 16 15,O1 17 (.call 125 true) 16,MV 18 1,BI 19 .andNot 17 18,BC 20 .eql 19 (.int .u64 0)]).seq (C.cond (.t 20) (C.ops [MV 21 5,MV 22 6,⟨some 23,
 none,.bslc 3 1 1 3 [i6 0] [(0,1)],[.t 22]⟩,O2 24 (.app 4 1 3 8) 21 23,MV 5 24]) C.skip)))).seq (C.ops [BC 25 .add 10 (i6 1),MV 10 25])))).loop)).seq ((C.ops [MV 26 5,MV 4
 26]).seq
 C.ret))))
theorem qyZ:qB Tryz.prog 197 27 5 [RV.tmp 4] qxi:=fi Tryz.f197 [4,5,7,23,24] qv []
def qxj:C:=
 ((C.ops [O1 1 (.box 0 224) 0,MC 2 .nilfn]).seq ((C.ops [O1 3 (.mkfn (Fn.func 245) 0) 1,MV 2 3]).seq
 C.ret))
theorem qy0:qB Tryz.prog 198 4 1 [RV.tmp 2] qxj:=fi Tryz.f198 [1] qv []
def qxk:C:=
 ((C.ops [MC 2 (i6 0)]).seq ((C.ops [MV 3 0,BC 4 .shr 3 (.int .u64 1),BC 5 .and 4 (.int .u64 6148914691236517205),MV 6 0,BC 7 .and 6 (.int .u64 6148914691236517205),BI 8 .add 5
 7,MV 0 8]).seq ((C.ops [MV 9 0,BC 10 .shr 9 (.int .u64 2),BC 11 .and 10 (.int .u64 3689348814741910323),MV 12 0,BC 13 .and 12 (.int .u64 3689348814741910323),BI 14 .add 11
 13,MV 0 14]).seq ((C.ops [MV 15 0,BC 16 .shr 15 (.int .u64 4),MV 17 0,BI 18 .add 16 17,BC 19 .and 18 (.int .u64 1085102592571150095),MV 0 19]).seq ((C.ops [MV 20 0,MV 21 0,
 BC 22 .shr 21 (.int .u64 8),BI 23 .add 20 22,MV 0 23]).seq ((C.ops [MV 24 0,MV 25 0,BC 26 .shr 25 (.int .u64 16),BI 27 .add 24 26,MV 0 27]).seq ((C.ops [MV 28 0,MV 29 0,BC
 30 .shr 29 (.int .u64 32),BI 31 .add 28 30,MV 0 31]).seq ((C.ops [MV 32 0,O1 33 (.conv .i64) 32,BC 34 .and 33 (i6 127),MV 2 34]).seq
 C.ret))))))))
theorem qy1:qB Tryz.prog 199 35 0 [RV.tmp 2] qxk:=fi Tryz.f199 [] qv []
def qwY:C:=
 ((C.ops [ON 2 (.nilo 0 1 3) []]).seq ((C.ops [ON 3 (.nilo 1 1 3) []]).seq (((C.ops [MC 5 (i6 0)]).seq (C.block 0 ((C.ops [BC 6 .lss 5 (i6 64)]).seq ((C.cond (.t 6) C.skip (C.exit
 0)).seq ((C.block 1 ((C.ops [MV 7 5,MV 4 7]).seq ((C.ops [MV 8 0,MV 9 4,BI 10 .shr 8 9,BC 11 .and 10 (.int .u64 1),BC 12 .eql 11 (.int .u64 1)]).seq (C.cond (.t 12) (C.ops [MV
 13 3,MV 14 4,⟨some 15,none,.bslc 2 1 1 3 [i6 0] [(0,1)],[.t 14]⟩,O2 16 (.app 3 1 3 8) 13 15,MV 3 16]) C.skip)))).seq (C.ops [BC 17 .add 5 (i6 1),MV 5 17])))).loop)).seq
 ((C.ops [MV 18 3,MV 2 18]).seq
 C.ret))))
theorem qyC:qB Tryz.prog 126 19 4 [RV.tmp 2] qwY:=fi Tryz.f126 [2,3,15,16] qv []
def qDn:C:=
 ((C.ops [MC 4 (i6 0)]).seq (((C.ops [MV 9 0,O1 10 .len 9,MC 11 (i6 0)]).seq (C.block 0 ((C.ops [BI 12 .lss 11 10]).seq ((C.cond (.t 12) C.skip (C.exit 0)).seq ((C.block 1 ((C.ops
 [MV 13 11,O2 14 (.idxA 1) 9 11,LD 15 14,MV 5 13,MV 6 15]).seq (((C.ops [MV 16 5,MV 17 1,O1 18 .len 17,BI 19 .geq 16 18]).seq (C.cond (.t 19) ((C.ops [MC 4 (i6 1)]).seq
 C.ret) C.skip)).seq ((C.ops [MV 20 1,MV 21 5,O2 22 (.idxA 1) 20 21,LD 23 22,MV 7 23]).seq ((C.ops [MV 24 6,MV 25 7,O2 26 (.call 141 true) 24 25,MV 8 26]).seq ((C.ops [MV 27
 8,BC 28 .neq 27 (i6 0)]).seq (C.cond (.t 28) ((C.ops [MV 29 8,MV 4 29]).seq C.ret) C.skip))))))).seq (C.ops [BC 30 .add 11 (i6 1),MV 11 30])))).loop)).seq (((C.ops [MV 31 0,O1
 32 .len 31,MV 33 1,O1 34 .len 33,BI 35 .lss 32 34]).seq (C.cond (.t 35) ((C.ops [MC 4 (i6 (-1))]).seq C.ret) C.skip)).seq ((C.ops [MC 4 (i6 0)]).seq
 C.ret))))
theorem qCk:qB Tryz.prog 66 36 0 [RV.tmp 4] qDn:=fi Tryz.f66 [] qv []
theorem qyy:qB Tryz.prog 117 19 0 [RV.tmp 4] cIX:=fi Tryz.f117 [] qv []
theorem qrR:qB Tryz.prog 123 19 0 [RV.tmp 4] (cIF 2 (some 2)):=fi Tryz.f123 [] qv []
def qwW:C:=
 ((C.ops [O1 2 (.box 0 167) 0,MC 3 (.bool false)]).seq ((C.ops [O1 4 (.fldA 0) 2,LD 5 4,LD 6 1,BI 7 .eql 5 6,MV 3 7]).seq
 C.ret))
theorem qyA:qB Tryz.prog 124 8 1 [RV.tmp 3] qwW:=fi Tryz.f124 [2] qv []
def qtf:C:=
 ((C.ops [ON 6 (.nilo 0 1 3) [],MC 7 (i6 0)]).seq (((C.ops [MV 11 0,MV 12 1,MV 13 2,ON 14 (.call 218 true) [.t 11,.t 12,.t 13],MV 8 14]).seq ((C.ops [MV 15 8,BC 16 .neq 15
 (i6 0)]).seq (C.cond (.t 16) ((C.ops [MV 17 8,ON 6 (.nilo 0 1 3) [],MV 7 17]).seq C.ret) C.skip))).seq ((C.ops [⟨some 18,none,.bslc 1 1 0 3 [i6 0] [],[]⟩,MV 9 18]).seq
 (((C.ops [MC 10 (i6 0)]).seq (C.block 0 (((C.ops [MV 19 10,MV 20 1,O1 21 .len 20,BI 22 .lss 19 21]).seq (C.cond (.t 22) C.skip (C.exit 0))).seq ((C.block 1 ((C.ops [MV 25 1,MV
 26 10,O2 27 (.idxA 2) 25 26,O1 28 (.fldA 1) 27,LD 29 28,MV 30 2,O2 31 (.call 219 true) 29 30]).seq (C.cond (.t 31) (C.ops [MV 32 9,MV 33 10,⟨some 34,none,.bslc 2 1 1 3 [i6
 0] [(0,1)],[.t 33]⟩,O2 35 (.app 3 1 3 8) 32 34,MV 9 35]) C.skip))).seq (C.ops [MV 23 10,BC 24 .add 23 (i6 1),MV 10 24]))).loop)).seq ((C.ops [MV 36 9,MV 6 36,MC 7 (i6
 0)]).seq
 C.ret)))))
theorem qr0:qB Tryz.prog 169 37 4 [RV.tmp 6,RV.tmp 7] qtf:=fi Tryz.f169 [6,18,34,35] qv []
def qxc:C:=
 ((C.ops [ON 8 (.nilo 0 1 3) []]).seq ((C.ops [⟨some 15,none,.bslc 1 1 0 3 [i6 0] [],[]⟩,MV 9 15]).seq ((C.ops [MV 16 3,MV 10 16]).seq (((C.ops [MC 11 (i6 0)]).seq (C.block 0
 (((C.ops [MV 17 11,MV 18 1,O1 19 .len 18,BI 20 .lss 17 19]).seq (C.cond (.t 20) C.skip (C.exit 0))).seq ((C.block 1 (((C.ops [MV 23 2,MV 24 11,BI 25 .shr 23 24,BC 26 .and 25
 (i6 1),BC 27 .eql 26 (i6 0)]).seq (C.cond (.t 27) (C.exit 1) C.skip)).seq ((C.ops [MV 28 9,MV 29 1,MV 30 11,O2 31 (.idxA 1) 29 30,LD 32 31,⟨some 33,none,.bslc 2 1 1 3 [i6
 0] [(0,1)],[.t 32]⟩,O2 34 (.app 3 1 3 8) 28 33,MV 9 34]).seq ((C.ops [⟨some 35,none,.bslc 4 1 0 3 [i6 0] [],[]⟩,MV 12 35]).seq (((C.ops [MC 13 (i6 0)]).seq (C.block 2
 (((C.ops [MV 36 13,MV 37 10,O1 38 .len 37,BI 39 .lss 36 38]).seq (C.cond (.t 39) C.skip (C.exit 2))).seq ((C.block 3 ((C.ops [MV 42 0,MV 43 1,MV 44 11,O2 45 (.idxA 1) 43 44,
 LD 46 45,O2 47 (.idxA 2) 42 46,O1 48 (.fldA 1) 47,LD 49 48,MV 50 10,MV 51 13,O2 52 (.idxA 1) 50 51,LD 53 52,O2 54 (.call 200 true) 49 53,O1 55 (.un UnOp.not) 54]).seq
 (C.cond (.t 55) (C.ops [MV 56 12,MV 57 10,MV 58 13,O2 59 (.idxA 1) 57 58,LD 60 59,⟨some 61,none,.bslc 5 1 1 3 [i6 0] [(0,1)],[.t 60]⟩,O2 62 (.app 6 1 3 8) 56 61,MV 12
 62]) C.skip))).seq (C.ops [MV 40 13,BC 41 .add 40 (i6 1),MV 13 41]))).loop)).seq (C.ops [MV 63 12,MV 10 63])))))).seq (C.ops [MV 21 11,BC 22 .add 21 (i6 1),MV 11
 22]))).loop)).seq (((C.ops [MC 14 (i6 0)]).seq (C.block 4 (((C.ops [MV 64 14,MV 65 10,O1 66 .len 65,BI 67 .lss 64 66]).seq (C.cond (.t 67) C.skip (C.exit 4))).seq ((C.block 5
 (C.ops [MV 70 9,MV 71 0,O1 72 .len 71,MV 73 10,MV 74 14,O2 75 (.idxA 1) 73 74,LD 76 75,BI 77 .add 72 76,⟨some 78,none,.bslc 7 1 1 3 [i6 0] [(0,1)],[.t 77]⟩,O2 79 (.app
 8 1 3 8) 70 78,MV 9 79])).seq (C.ops [MV 68 14,BC 69 .add 68 (i6 1),MV 14 69]))).loop)).seq ((C.ops [MV 80 9,MV 8 80]).seq
 C.ret))))))
theorem qyR:qB Tryz.prog 170 81 9 [RV.tmp 8] qxc:=fi Tryz.f170 [8,15,33,34,35,61,62,78,79] qv []
def qtg:C:=
 ((C.ops [MC 4 (.bool false)]).seq (((C.ops [MV 6 0,O1 7 .len 6,MV 8 1,O1 9 .len 8,BI 10 .neq 7 9]).seq (C.cond (.t 10) ((C.ops [MV 11 0,O1 12 .len 11,MV 13 1,O1 14 .len 13,
 BI 15 .lss 12 14,MV 4 15]).seq C.ret) C.skip)).seq (((C.ops [MC 5 (i6 0)]).seq (C.block 0 (((C.ops [MV 16 5,MV 17 0,O1 18 .len 17,BI 19 .lss 16 18]).seq (C.cond (.t 19) C.skip
 (C.exit 0))).seq ((C.block 1 ((C.ops [MV 22 0,MV 23 5,O2 24 (.idxA 1) 22 23,LD 25 24,MV 26 1,MV 27 5,O2 28 (.idxA 1) 26 27,LD 29 28,BI 30 .neq 25 29]).seq (C.cond (.t 30)
 ((C.ops [MV 31 0,MV 32 5,O2 33 (.idxA 1) 31 32,LD 34 33,MV 35 1,MV 36 5,O2 37 (.idxA 1) 35 36,LD 38 37,BI 39 .lss 34 38,MV 4 39]).seq C.ret) C.skip))).seq (C.ops [MV 20 5,
 BC 21 .add 20 (i6 1),MV 5 21]))).loop)).seq ((C.ops [MC 4 (.bool false)]).seq
 C.ret))))
theorem qr1:qB Tryz.prog 171 40 0 [RV.tmp 4] qtg:=fi Tryz.f171 [] qv []
def qxm:C:=
 ((C.ops [MC 4 (.bool false)]).seq ((C.ops [MV 5 0,O1 6 (.call 203 true) 5,BC 7 .neq 6 (i6 0),MV 8 7,MG 9 8 false 1,P1 10 8 false (.call 203 true) 9,PC 11 8 false (.bin .neq)
 10 (i6 0),PT 12 8 11,MV 4 12]).seq
 C.ret))
theorem qy3:qB Tryz.prog 201 13 0 [RV.tmp 4] qxm:=fi Tryz.f201 [] qv []
def qxn:C:=
 ((C.ops [MC 4 (.bool false)]).seq (((C.ops [MC 5 (i6 0)]).seq (C.block 0 (((C.ops [MV 6 5,MV 7 0,O1 8 .len 7,BI 9 .lss 6 8]).seq (C.cond (.t 9) C.skip (C.exit 0))).seq ((C.block
 1 ((C.ops [MV 12 0,MV 13 5,O2 14 (.idxA 1) 12 13,LD 15 14,MV 16 1,BI 17 .eql 15 16]).seq (C.cond (.t 17) ((C.ops [MC 4 (.bool true)]).seq C.ret) C.skip))).seq (C.ops [MV 10 5,
 BC 11 .add 10 (i6 1),MV 5 11]))).loop)).seq ((C.ops [MC 4 (.bool false)]).seq
 C.ret)))
theorem qy4:qB Tryz.prog 202 18 0 [RV.tmp 4] qxn:=fi Tryz.f202 [] qv []
def qoO:C:=
 ((C.ops [O1 1 (.box 0 58) 0,MC 2 (.bool false)]).seq (((C.ops [O1 4 (.fldA 5) 1,LD 5 4,O1 6 .len 5,BC 7 .gtr 6 (i6 6),MV 8 7,P1 9 8 false (.fldA 4) 1,P1 10 8 false (.load
 none) 9,PC 11 8 false (.call 70 true) 10 (i6 8),PT 12 8 11]).seq (C.cond (.t 12) ((C.ops [MC 2 (.bool true)]).seq C.ret) C.skip)).seq (((C.ops [MC 3 (i6 0)]).seq (C.block 0
 (((C.ops [MV 13 3,O1 14 (.fldA 5) 1,LD 15 14,O1 16 .len 15,BI 17 .lss 13 16]).seq (C.cond (.t 17) C.skip (C.exit 0))).seq ((C.block 1 ((C.ops [O1 20 (.fldA 5) 1,LD 21 20,MV
 22 3,O2 23 (.idxA 2) 21 22,O1 24 (.fldA 0) 23,LD 25 24,OC 26 (.call 70 true) 25 (i6 8),MV 27 26,P1 28 27 false (.fldA 5) 1,P1 29 27 false (.load none) 28,MG 30 27 false 3,
 P2 31 27 false (.idxA 2) 29 30,P1 32 27 false (.fldA 1) 31,P1 33 27 false (.load none) 32,PC 34 27 false (.call 70 true) 33 (i6 8),PT 35 27 34]).seq (C.cond (.t 35) ((C.ops [MC
 2 (.bool true)]).seq C.ret) C.skip))).seq (C.ops [MV 18 3,BC 19 .add 18 (i6 1),MV 3 19]))).loop)).seq ((C.ops [MC 2 (.bool false)]).seq
 C.ret))))
theorem qlG:qB Tryz.prog 143 36 1 [RV.tmp 2] qoO:=fi Tryz.f143 [1] qv []
def qw0:C:=
 ((C.ops [MC 2 (i6 0)]).seq (((C.ops [MV 6 0,O1 7 .len 6,MC 8 (i6 0)]).seq (C.block 0 ((C.ops [BI 9 .lss 8 7]).seq ((C.cond (.t 9) C.skip (C.exit 0)).seq ((C.block 1 ((C.ops [O2
 10 (.idxA 1) 6 8,LD 11 10,MV 4 11]).seq ((C.ops [MV 12 4,⟨some 13,none,.build [.str [],.str [],i6 0] [(0,1)],[.t 12]⟩,O1 14 (.call 194 true) 13,MV 5 14]).seq ((C.ops [MV
 15 5,BC 16 .neq 15 (i6 0)]).seq (C.cond (.t 16) ((C.ops [MV 17 5,MV 2 17]).seq C.ret) C.skip))))).seq (C.ops [BC 18 .add 8 (i6 1),MV 8 18])))).loop)).seq ((C.ops [MC 2 (i6
 0)]).seq
 C.ret)))
theorem qyF:qB Tryz.prog 138 19 0 [RV.tmp 2] qw0:=fi Tryz.f138 [] qv []
def qw1:C:=
 ((C.ops [MC 4 (.bool false)]).seq ((C.ops [MV 5 0,MV 6 1,O2 7 (.call 53 true) 5 6,MV 4 7]).seq
 C.ret))
theorem qyG:qB Tryz.prog 139 8 0 [RV.tmp 4] qw1:=fi Tryz.f139 [] qv []
theorem qCj:qB Tryz.prog 56 9 0 [RV.tmp 4] (cCT 129):=fi Tryz.f56 [] qv []
def qw2:C:=
 ((C.ops [O1 2 (.box 0 85) 0,MC 3 (.bool false)]).seq ((C.ops [O1 4 (.fldA 0) 1,LD 5 4,O1 6 (.fldA 0) 2,LD 7 6,O2 8 (.call 139 true) 5 7,MV 3 8]).seq
 C.ret))
theorem qyH:qB Tryz.prog 140 9 1 [RV.tmp 3] qw2:=fi Tryz.f140 [2] qv []
def qoN:C:=
 ((C.ops [MC 4 (i6 0)]).seq ((C.ops [MV 7 0,O1 8 (.call 195 true) 7,MV 5 8]).seq ((C.ops [MV 9 1,O1 10 (.call 195 true) 9,MV 6 10]).seq (((C.ops [MV 11 5]).seq (C.cond (.t 11)
 (((C.ops [MV 12 6]).seq (C.cond (.t 12) ((C.ops [MC 4 (i6 0)]).seq C.ret) C.skip)).seq ((C.ops [MC 4 (i6 (-1))]).seq C.ret)) C.skip)).seq (((C.ops [MV 13 6]).seq (C.cond (.t 13)
 ((C.ops [MC 4 (i6 1)]).seq C.ret) C.skip)).seq (((C.ops [MV 14 0,MV 15 1,BI 16 .lss 14 15]).seq (C.cond (.t 16) ((C.ops [MC 4 (i6 (-1))]).seq C.ret) C.skip)).seq (((C.ops [MV 17
 0,MV 18 1,BI 19 .gtr 17 18]).seq (C.cond (.t 19) ((C.ops [MC 4 (i6 1)]).seq C.ret) C.skip)).seq ((C.ops [MC 4 (i6 0)]).seq
 C.ret))))))))
theorem qlF:qB Tryz.prog 141 20 0 [RV.tmp 4] qoN:=fi Tryz.f141 [] qv []
def qs9:C:=
 ((C.ops [O1 1 (.box 0 181) 0,MC 2 (i6 0)]).seq (((C.ops [O1 3 (.fldA 0) 1,LD 4 3,O1 5 (.call 193 true) 4,O1 6 (.un UnOp.not) 5,MV 7 6,P1 8 7 false (.fldA 1) 1,P1 9 7 false
 (.load none) 8,PC 10 7 false (.bin .neq) 9 (.str []),MG 11 7 false 10,P1 12 11 true (.fldA 1) 1,P1 13 11 true (.load none) 12,P1 14 11 true (.call 193 true) 13,P1 15 11 true
 (.un UnOp.not) 14,QF 16 7 false 11 15,PT 17 7 16]).seq (C.cond (.t 17) ((C.ops [MC 2 (i6 11)]).seq C.ret) C.skip)).seq (((C.ops [O1 18 (.fldA 2) 1,LD 19 18,BC 20 .lss 19 (i6
 0),MV 21 20,P1 22 21 false (.fldA 2) 1,P1 23 21 false (.load none) 22,PC 24 21 false (.bin .gtr) 23 (i6 65536),PT 25 21 24]).seq (C.cond (.t 25) ((C.ops [MC 2 (i6 2)]).seq
 C.ret) C.skip)).seq ((C.ops [MC 2 (i6 0)]).seq
 C.ret))))
theorem qrU:qB Tryz.prog 137 26 1 [RV.tmp 2] qs9:=fi Tryz.f137 [1] qv []
def qtm:C:=
 ((C.ops [MC 4 (.str []),MC 5 (.bool false)]).seq ((C.ops [MV 6 0,MV 7 1,O2 8 (.call 284 true) 6 7,O1 9 (.ext 0) 8,O1 10 (.ext 1) 8,MV 4 9,MV 5 10]).seq
 C.ret))
theorem qr7:qB Tryz.prog 241 11 0 [RV.tmp 4,RV.tmp 5] qtm:=fi Tryz.f241 [] qv []
theorem qyW:qB Tryz.prog 190 9 0 [RV.tmp 4] (cCT 243):=fi Tryz.f190 [] qv []
def qxg:C:=
 ((C.ops [MC 2 (.bool false)]).seq ((C.ops [MV 3 0,BC 4 .gtr 3 (i6 1),MV 2 4]).seq
 C.ret))
theorem qyX:qB Tryz.prog 191 5 0 [RV.tmp 2] qxg:=fi Tryz.f191 [] qv []
def qxz:C:=
 ((C.ops [LD 7 1,O1 8 .len 7,ON 9 (.bin .shl) [.c (.int .u64 1),.t 8],MC 10 (.int .u64 0)]).seq (C.block 0 ((C.ops [BI 11 .lss 10 9]).seq ((C.cond (.t 11) C.skip (C.exit 0)).seq
 ((C.block 1 ((C.ops [MV 12 10,MV 3 12]).seq ((C.ops [MC 4 (.int .u64 0)]).seq (((C.ops [LD 13 1,O1 14 .len 13,MC 15 (i6 0)]).seq (C.block 2 ((C.ops [BI 16 .lss 15 14]).seq
 ((C.cond (.t 16) C.skip (C.exit 2)).seq ((C.block 3 ((C.ops [MV 17 15,O2 18 (.idxA 1) 13 15,LD 19 18,MV 5 17,MV 6 19]).seq ((C.ops [MV 20 3,MV 21 5,BI 22 .shr 20 21,BC 23
 .and 22 (.int .u64 1),BC 24 .eql 23 (.int .u64 1)]).seq (C.cond (.t 24) (C.ops [MV 25 4,MV 26 6,BI 27 .or 25 26,MV 4 27]) C.skip)))).seq (C.ops [BC 28 .add 15 (i6 1),MV 15
 28])))).loop)).seq ((C.ops [MV 29 0,MV 30 3,MV 31 4,ON 32 .callv [.t 29,.t 30,.t 31],O1 33 (.un UnOp.not) 32]).seq (C.cond (.t 33) C.ret C.skip)))))).seq (C.ops [BC 34 .add
 10 (.int .u64 1),MV 10
 34])))).loop))
theorem qzi:qB Tryz.prog 245 35 0 [] qxz:=fi Tryz.f245 [] qv []
def qtk:C:=
 ((C.ops [MC 6 (i6 0)]).seq (((C.ops [MV 7 0,MV 8 1,O2 9 (.call 98 true) 7 8,BC 10 .neq 9 (i6 0)]).seq (C.cond (.t 10) ((C.ops [MC 6 (i6 1)]).seq C.ret) C.skip)).seq ((C.ops [MV
 11 0,O1 12 .len 11,MV 13 2,O2 14 (.call 168 true) 12 13,MV 6 14]).seq
 C.ret)))
theorem qr5:qB Tryz.prog 218 15 0 [RV.tmp 6] qtk:=fi Tryz.f218 [] qv []
def qxu:C:=
 ((C.ops [MC 4 (.bool false)]).seq (((C.ops [MC 5 (i6 0)]).seq (C.block 0 (((C.ops [MV 6 5,MV 7 0,O1 8 .len 7,BI 9 .lss 6 8]).seq (C.cond (.t 9) C.skip (C.exit 0))).seq ((C.block
 1 ((C.ops [MV 12 1,MV 13 0,MV 14 5,O2 15 (.idxA 1) 13 14,LD 16 15,O2 17 (.call 200 true) 12 16,O1 18 (.un UnOp.not) 17]).seq (C.cond (.t 18) ((C.ops [MC 4 (.bool false)]).seq
 C.ret) C.skip))).seq (C.ops [MV 10 5,BC 11 .add 10 (i6 1),MV 5 11]))).loop)).seq ((C.ops [MC 4 (.bool true)]).seq
 C.ret)))
theorem qzc:qB Tryz.prog 219 19 0 [RV.tmp 4] qxu:=fi Tryz.f219 [] qv []
def qxo:C:=
 ((C.ops [MC 2 (i6 0)]).seq (((C.ops [MC 3 (i6 0)]).seq (C.block 0 (((C.ops [MV 4 3,MV 5 0,O1 6 .len 5,BI 7 .lss 4 6]).seq (C.cond (.t 7) C.skip (C.exit 0))).seq ((C.block 1
 (((C.ops [MV 10 0,MV 11 3,O2 12 (.idxA 1) 10 11,LD 13 12,BC 14 .lss 13 (i6 0),MV 15 14,MG 16 15 false 0,MG 17 15 false 3,P2 18 15 false (.idxA 1) 16 17,P1 19 15 false
 (.load none) 18,PC 20 15 false (.bin .gtr) 19 (i6 63),PT 21 15 20]).seq (C.cond (.t 21) ((C.ops [MC 2 (i6 2)]).seq C.ret) C.skip)).seq ((C.ops [MV 22 3,BC 23 .gtr 22 (i6 0),MV
 24 23,MG 25 24 true 0,MG 26 24 true 3,P2 27 24 true (.idxA 1) 25 26,P1 28 24 true (.load none) 27,MG 29 24 true 0,MG 30 24 true 3,PC 31 24 true (.bin .sub) 30 (i6 1),P2 32
 24 true (.idxA 1) 29 31,P1 33 24 true (.load none) 32,P2 34 24 true (.bin .leq) 28 33,PF 35 24 34]).seq (C.cond (.t 35) ((C.ops [MC 2 (i6 10)]).seq C.ret) C.skip)))).seq (C.ops
 [MV 8 3,BC 9 .add 8 (i6 1),MV 3 9]))).loop)).seq ((C.ops [MC 2 (i6 0)]).seq
 C.ret)))
theorem qy5:qB Tryz.prog 203 36 0 [RV.tmp 2] qxo:=fi Tryz.f203 [] qv []
def qDp:C:=
 ((C.ops [MC 4 (.bool false)]).seq (((C.ops [MC 5 (i6 0)]).seq (C.block 0 (((C.ops [MV 6 5,MV 7 0,O1 8 .len 7,BI 9 .lss 6 8]).seq (C.cond (.t 9) C.skip (C.exit 0))).seq ((C.block
 1 ((C.ops [MV 12 0,MV 13 5,O2 14 (.idxA 1) 12 13,LD 15 14,O1 16 .slen 15,BC 17 .gtr 16 (i6 20)]).seq (C.cond (.t 17) ((C.ops [MC 4 (.bool true)]).seq C.ret) C.skip))).seq
 (C.ops [MV 10 5,BC 11 .add 10 (i6 1),MV 5 11]))).loop)).seq ((C.ops [MV 18 0,O1 19 .len 18,MV 20 1,BI 21 .gtr 19 20,MV 4 21]).seq
 C.ret)))
theorem qCm:qB Tryz.prog 70 22 0 [RV.tmp 4] qDp:=fi Tryz.f70 [] qv []
def qti:C:=
 ((C.ops [O1 1 (.box 0 181) 0,MC 2 (i6 0)]).seq ((C.block 0 ((C.ops [O1 4 (.fldA 0) 1,LD 5 4,O1 6 (.call 244 true) 5,O1 7 (.un UnOp.not) 6,MV 8 7,P1 9 8 false (.fldA 1) 1,P1
 10 8 false (.load none) 9,PC 11 8 false (.bin .neq) 10 (.str []),MG 12 8 false 11,P1 13 12 true (.fldA 1) 1,P1 14 12 true (.load none) 13,P1 15 12 true (.call 244 true) 14,P1
 16 12 true (.un UnOp.not) 15,QF 17 8 false 12 16,PT 18 8 17,MV 3 18]).seq (C.cond (.t 3) ((C.ops [MC 2 (i6 11)]).seq C.ret) ((C.ops [O1 20 (.fldA 2) 1,LD 21 20,BC 22 .lss 21
 (i6 0),MV 23 22,P1 24 23 false (.fldA 2) 1,P1 25 23 false (.load none) 24,PC 26 23 false (.bin .gtr) 25 (i6 65536),PT 27 23 26,MV 19 27]).seq (C.cond (.t 19) ((C.ops [MC 2
 (i6 2)]).seq C.ret) C.skip))))).seq ((C.ops [MC 2 (i6 0)]).seq
 C.ret)))
theorem qr3:qB Tryz.prog 194 28 1 [RV.tmp 2] qti:=fi Tryz.f194 [1] qv []
theorem qyD:qB Tryz.prog 129 19 0 [RV.tmp 4] (cIF 2 (some 2)):=fi Tryz.f129 [] qv []
def qhW:C:=
 ((C.ops [MC 2 (.bool false)]).seq (((C.ops [MV 4 0,O1 5 (.call 216 true) 4]).seq (C.cond (.t 5) ((C.ops [MC 2 (.bool true)]).seq C.ret) C.skip)).seq ((C.ops [MC 3 (i6 8)]).seq
 (((C.ops [MV 6 0,O1 7 .slen 6,BC 8 .gtr 7 (i6 1)]).seq (C.cond (.t 8) (C.ops [MC 3 (i6 2)]) C.skip)).seq ((C.ops [MV 9 0,MV 10 0,MV 11 3,⟨some 12,none,.build [.str [],.str
 [],.str [],i6 0,i6 0,.str []] [(0,1),(1,1),(4,1)],[.t 9,.t 10,.t 11]⟩,O1 13 (.call 211 true) 12,BC 14 .eql 13 (i6 0),MV 2 14]).seq
 C.ret)))))
theorem qeU:qB Tryz.prog 193 15 0 [RV.tmp 2] qhW:=fi Tryz.f193 [] qv []
def qkI:C:=
 ((C.ops [MC 4 (.str []),MC 5 (.bool false)]).seq (((C.ops [MV 6 0,MV 7 1,O2 8 (.call 304 true) 6 7,O1 9 (.un UnOp.not) 8]).seq (C.cond (.t 9) ((C.ops [MV 10 0,MV 4 10,MC 5
 (.bool false)]).seq C.ret) C.skip)).seq ((C.ops [MV 11 0,MV 12 0,O1 13 .slen 12,MV 14 1,O1 15 .slen 14,BI 16 .sub 13 15,O2 17 (.sslc false true) 11 16,MV 4 17,MC 5 (.bool
 true)]).seq
 C.ret)))
theorem qhd:qB Tryz.prog 284 18 0 [RV.tmp 4,RV.tmp 5] qkI:=fi Tryz.f284 [] qv []
theorem qzh:qB Tryz.prog 243 19 0 [RV.tmp 4] (cIF 1 none):=fi Tryz.f243 [] qv []
def qoP:C:=
 ((C.ops [MC 2 (.bool false)]).seq (((C.ops [MV 9 0,O1 10 (.call 247 true) 9]).seq (C.cond (.t 10) ((C.ops [MC 2 (.bool true)]).seq C.ret) C.skip)).seq (((C.ops [MV 11 0,O1 12
 .slen 11,BC 13 .eql 12 (i6 1)]).seq (C.cond (.t 13) ((C.ops [MV 14 0,OC 15 .sidx 14 (i6 0),O1 16 (.call 285 true) 15,MV 3 16]).seq ((C.ops [MV 17 3,BC 18 .eql 17 (i6 5),MV 19
 18,MG 20 19 false 3,PC 21 19 false (.bin .eql) 20 (i6 4),PT 22 19 21,MV 2 22]).seq C.ret)) C.skip)).seq ((C.ops [MV 24 0,OC 25 (.call 286 true) 24 (.str [91]),MV 23 25,O1 26
 (.ext 0) 23,O1 27 (.ext 1) 23,MV 4 26,MV 5 27]).seq ((C.ops [MV 29 4,OC 30 (.call 241 true) 29 (.str [93]),MV 28 30,O1 31 (.ext 0) 28,O1 32 (.ext 1) 28,MV 4 31,MV 6
 32]).seq ((C.ops [MV 34 4,O1 35 (.call 287 true) 34,MV 33 35,O1 36 (.ext 0) 33,O1 37 (.ext 1) 33,MV 7 36,MV 8 37]).seq ((C.ops [MV 38 5,MV 39 38,MG 40 39 true 6,PF 41 39
 40,MV 42 41,MG 43 42 true 8,PF 44 42 43,MV 45 44,MG 46 45 true 7,PC 47 45 true (.bin .leq) 46 (i6 64),PF 48 45 47,MV 2 48]).seq
 C.ret)))))))
theorem qlH:qB Tryz.prog 244 49 0 [RV.tmp 2] qoP:=fi Tryz.f244 [] qv []
def qfP:C:=
 ((C.ops [O1 1 (.box 0 124) 0,MC 2 (i6 0)]).seq (((C.ops [O1 6 (.fldA 4) 1,LD 7 6,BC 8 .lss 7 (i6 0),MV 9 8,P1 10 9 false (.fldA 4) 1,P1 11 9 false (.load none) 10,PC 12 9
 false (.bin .gtr) 11 (i6 31),PT 13 9 12]).seq (C.cond (.t 13) ((C.ops [MC 2 (i6 2)]).seq C.ret) C.skip)).seq ((C.ops [O1 14 (.load (some 6)) 1,OC 15 (.call 255 true) 14 (i6 2),
 O1 16 (.load (some 6)) 1,OC 17 (.call 255 true) 16 (i6 8),MV 3 15,MV 4 17]).seq (((C.ops [MV 18 3,MV 19 18,MG 20 19 true 4,PF 21 19 20]).seq (C.cond (.t 21) ((C.ops [MC 2 (i6
 8)]).seq C.ret) C.skip)).seq ((C.block 0 ((C.ops [MV 51 3,MV 50 51]).seq (C.cond (.t 50) ((C.ops [O1 52 (.fldA 0) 1,LD 53 52,O1 54 (.call 256 true) 53,O1 55 (.un UnOp.not) 54,
 MV 56 55,P1 57 56 false (.fldA 1) 1,P1 58 56 false (.load none) 57,P1 59 56 false (.fldA 0) 1,P1 60 56 false (.load none) 59,P2 61 56 false (.bin .neq) 58 60,PT 62 56
 61]).seq (C.cond (.t 62) ((C.ops [MC 2 (i6 11)]).seq C.ret) C.skip)) ((C.ops [MV 64 4,MV 63 64]).seq (C.cond (.t 63) ((C.ops [O1 65 (.fldA 0) 1,LD 66 65,O1 67 .slen 66,BC 68
 .neq 67 (i6 1),MV 69 68,P1 70 69 false (.fldA 0) 1,P1 71 69 false (.load none) 70,PC 72 69 false .sidx 71 (i6 0),P1 73 69 false (.call 257 true) 72,PC 74 69 false (.bin .neq)
 73 (i6 5),MG 75 69 false 74,P1 76 75 true (.fldA 0) 1,P1 77 75 true (.load none) 76,PC 78 75 true .sidx 77 (i6 0),P1 79 75 true (.call 257 true) 78,PC 80 75 true (.bin .neq)
 79 (i6 4),QF 81 69 false 75 80,PT 82 69 81,MV 83 82,P1 84 83 false (.fldA 1) 1,P1 85 83 false (.load none) 84,P1 86 83 false (.fldA 0) 1,P1 87 83 false (.load none) 86,P2
 88 83 false (.bin .neq) 85 87,PT 89 83 88]).seq (C.cond (.t 89) ((C.ops [MC 2 (i6 11)]).seq C.ret) C.skip)) (((C.ops [O1 22 (.fldA 0) 1,LD 23 22,O1 24 (.call 216 true) 23,O1 25
 (.un UnOp.not) 24,MV 26 25,P1 27 26 false (.fldA 1) 1,P1 28 26 false (.load none) 27,PC 29 26 false (.bin .eql) 28 (.str []),PT 30 26 29,MV 31 30,P1 32 31 false (.fldA 1) 1,
 P1 33 31 false (.load none) 32,P1 34 31 false .slen 33,PC 35 31 false (.bin .gtr) 34 (i6 64),PT 36 31 35]).seq (C.cond (.t 36) ((C.ops [MC 2 (i6 11)]).seq C.ret) C.skip)).seq
 ((C.ops [MC 5 (i6 0)]).seq (C.block 1 (((C.ops [MV 37 5,O1 38 (.fldA 1) 1,LD 39 38,O1 40 .slen 39,BI 41 .lss 37 40]).seq (C.cond (.t 41) C.skip (C.exit 1))).seq ((C.block 2
 ((C.ops [O1 44 (.fldA 1) 1,LD 45 44,MV 46 5,O2 47 .sidx 45 46,O1 48 (.call 258 true) 47,O1 49 (.un UnOp.not) 48]).seq (C.cond (.t 49) ((C.ops [MC 2 (i6 11)]).seq C.ret)
 C.skip))).seq (C.ops [MV 42 5,BC 43 .add 42 (i6 1),MV 5 43]))).loop)))))))).seq (((C.ops [O1 90 (.fldA 2) 1,O1 91 (.fldA 1) 90,LD 92 91,BC 93 .lss 92 (i6 0)]).seq (C.cond (.t
 93) ((C.ops [MC 2 (i6 2)]).seq C.ret) C.skip)).seq (((C.ops [O1 94 (.fldA 2) 1,O1 95 (.fldA 0) 94,LD 96 95,O1 97 (.call 259 true) 96,O1 98 (.un UnOp.not) 97,MV 99 98,P1 100
 99 false (.fldA 5) 1,P1 101 99 false (.load none) 100,P1 102 99 false (.call 259 true) 101,P1 103 99 false (.un UnOp.not) 102,PT 104 99 103]).seq (C.cond (.t 104) ((C.ops [MC 2
 (i6 14)]).seq C.ret) C.skip)).seq ((C.ops [MC 2 (i6 0)]).seq
 C.ret))))))))
theorem qdp:qB Tryz.prog 211 105 1 [RV.tmp 2] qfP:=fi Tryz.f211 [1] qv []
def qxN:C:=
 ((C.ops [MC 4 (.str []),MC 5 (.bool false)]).seq ((C.ops [MV 6 0,MV 7 1,O2 8 (.call 306 true) 6 7,O1 9 (.ext 0) 8,O1 10 (.ext 1) 8,MV 4 9,MV 5 10]).seq
 C.ret))
theorem qzy:qB Tryz.prog 286 11 0 [RV.tmp 4,RV.tmp 5] qxN:=fi Tryz.f286 [] qv []
def qhY:C:=
 ((C.ops [MC 2 (i6 0),MC 3 (.bool false)]).seq ((C.ops [MV 7 0,O1 8 (.call 291 true) 7,MV 6 8,O1 9 (.ext 0) 6,O1 10 (.ext 1) 6,MV 4 9,MV 5 10]).seq ((C.ops [MV 11 4,MV 12 5,
 O1 13 (.isnil .iface false) 12,MV 14 13,MG 15 14 true 4,PC 16 14 true (.bin .geq) 15 (i6 1),PF 17 14 16,MV 18 17,MG 19 18 true 0,P1 20 18 true .slen 19,PC 21 18 true (.bin
 .leq) 20 (i6 9),PF 22 18 21,MV 23 22,MG 24 23 true 4,P1 25 23 true (.call 86 true) 24,MG 26 23 true 0,P2 27 23 true (.bin .eql) 25 26,PF 28 23 27,MV 2 11,MV 3 28]).seq
 C.ret)))
theorem qeW:qB Tryz.prog 287 29 0 [RV.tmp 2,RV.tmp 3] qhY:=fi Tryz.f287 [] qv []
def qxD:C:=
 ((C.ops [O1 2 (.box 0 124) 0,MC 4 (.bool false)]).seq ((C.ops [O1 5 (.fldA 4) 2,LD 6 5,MV 7 1,BI 8 .quo 6 7,BC 9 .rem 8 (i6 2),BC 10 .eql 9 (i6 1),MV 4 10]).seq
 C.ret))
theorem qzo:qB Tryz.prog 255 11 1 [RV.tmp 4] qxD:=fi Tryz.f255 [2] qv []
def qxE:C:=
 ((C.ops [MC 2 (.bool false)]).seq (((C.ops [MC 3 (i6 1)]).seq (C.block 0 (((C.ops [MV 4 3,BC 5 .leq 4 (i6 64)]).seq (C.cond (.t 5) C.skip (C.exit 0))).seq ((C.block 1 ((C.ops [MV
 8 0,MV 9 3,O1 10 (.call 86 true) 9,ON 11 (.bin .add) [.c (.str [91]),.t 10],BC 12 .add 11 (.str [93]),BI 13 .eql 8 12]).seq (C.cond (.t 13) ((C.ops [MC 2 (.bool true)]).seq
 C.ret) C.skip))).seq (C.ops [MV 6 3,BC 7 .add 6 (i6 1),MV 3 7]))).loop)).seq ((C.ops [MC 2 (.bool false)]).seq
 C.ret)))
theorem qzp:qB Tryz.prog 256 14 0 [RV.tmp 2] qxE:=fi Tryz.f256 [] qv []
def qxG:C:=
 ((C.ops [MC 2 (.bool false)]).seq ((C.ops [MV 3 0,BC 4 .eql 3 (.str []),MV 5 4,MG 6 5 false 0,P1 7 5 false (.call 166 true) 6,PT 8 5 7,MV 2 8]).seq
 C.ret))
theorem qzr:qB Tryz.prog 259 9 0 [RV.tmp 2] qxG:=fi Tryz.f259 [] qv []
def qtt:C:=
 ((C.ops [MC 4 (.str []),MC 5 (.bool false)]).seq (((C.ops [MV 6 0,MV 7 1,O2 8 (.call 314 true) 6 7,O1 9 (.un UnOp.not) 8]).seq (C.cond (.t 9) ((C.ops [MV 10 0,MV 4 10,MC 5
 (.bool false)]).seq C.ret) C.skip)).seq ((C.ops [MV 11 0,MV 12 1,O1 13 .slen 12,O2 14 (.sslc true false) 11 13,MV 4 14,MC 5 (.bool true)]).seq
 C.ret)))
theorem qse:qB Tryz.prog 306 15 0 [RV.tmp 4,RV.tmp 5] qtt:=fi Tryz.f306 [] qv []
end
section
open Go Go.Proofs AF HY LN
namespace RC
abbrev Str:=List UInt8
def ql(L:List Int):AV:= .sl L.length fun i=> [.int .i64 (L.getD i 0)]
def qfG(s:Str):Bool:=decide (1≤s.length)&&decide (s.drop (s.length-1)= [42])
def qiS(s:Str):Bool:=if qfG s=true then jp (s.take (s.length-1))&&decide (s.length≤16) else jp s
theorem qd6:((1:Nat):Int)=1:=rfl
theorem qsm(s:Str)(h:List AObj)(hs:s.length≤1000000000):ACalls Tryz.prog 304 [.str s,.str [42]] h (.bool (qfG s)) h:=by
 unfold qfG
 by_cases g:1≤s.length
 ·have k1:((1:Int)≤s.length)=True:=eqt om;have k2:((s.length:Int)-1).toNat=s.length-1:=by omega
  have k3:(0≤(s.length:Int)-1)=True:=eqt om;have k4:((s.length:Int)-1≤s.length)=True:=eqt om;have k5:List.take (s.length-(s.length-1)) (List.drop (s.length-1) s)=s.drop (s.length-1):=ltl (by simp);rw[dqt g];refine acO qhe ?_;simp (disch:=omega) only[qkJ,qd6,k1,k2,k3,k4,k5,go_sem]
  repeat' first
   |(apply qe;exact rvk;simp only[go_sem];exact qk)
   |with_reducible apply aiA
  all_goals try exact clz
 ·have k1:((1:Int)≤s.length)=False:=eqf om;rw[dqf g];refine acO qhe ?_;simp (disch:=omega) only[qkJ,qd6,k1,go_sem]
  repeat' first
   |(apply qe;exact rvk;simp only[go_sem];exact qk)
theorem qtO(s:Str)(h:List AObj)(hs:s.length≤1000000000):ACalls Tryz.prog 284 [.str s,.str [42]] h (.tup [.str (if qfG s=true then s.take (s.length-1) else s),.bool (qfG s)]) h:=by
 have c1:=fun h=>qsm s h hs
 cases g:qfG s with
 |true=>
  rw[g]at c1;have g1:1≤s.length:=by unfold qfG at g;simp at g;omega
  have k2:((s.length:Int)-1).toNat=s.length-1:=by omega
  have k3:(0≤(s.length:Int)-1)=True:=eqt om;have k4:((s.length:Int)-1≤s.length)=True:=eqt om;refine acO qhd ?_;simp (disch:=omega) only[qkI,go_sem]
  repeat' first
   |(refine cA (c1 _) flk ?_;simp (disch:=omega) only[qd6,k2,k3,k4,Nat.sub_zero,go_sem])
   |(apply qe;exact rvk;simp only[go_sem];exact qk)
   |with_reducible apply aiA
  all_goals try exact clz
 |false=>
  rw[g]at c1;refine acO qhd ?_;simp (disch:=omega) only[qkI,go_sem]
  repeat' first
   |(refine cA (c1 _) flk ?_;simp (disch:=omega) only[go_sem])
   |(apply qe;exact rvk;simp only[go_sem];exact qk)
theorem qrH(s:Str)(h:List AObj)(hs:s.length≤1000000000):ACalls Tryz.prog 241 [.str s,.str [42]] h (.tup [.str (if qfG s=true then s.take (s.length-1) else s),.bool (qfG s)]) h:=by
 have c1:=fun h=>qtO s h hs
 refine acO qr7 ?_;simp (disch:=omega) only[qtm,go_sem]
 repeat' first
  |(refine cA (c1 _) flk ?_;simp (disch:=omega) only[go_sem])
  |(apply qe;exact rvk;simp only[go_sem];exact qk)
  |with_reducible apply aiA
 all_goals try exact clz
theorem qCQ(s:Str)(h:List AObj)(hs:s.length≤1000000000):ACalls Tryz.prog 185 [.str s] h (.bool (qiS s)) h:=by
 have c1:=fun h=>qrH s h hs
 unfold qiS;cases g:qfG s with
 |true=>
  rw[g]at c1;simp only[if_true]at c1;have c2:=fun h=>t44 (s.take (s.length-1)) h (by simp;omega)
  rw[ipo rfl];cases g2:jp (s.take (s.length-1))with
  |true=>
   rw[g2]at c2;have k7:decide ((s.length:Int)≤16)=decide (s.length≤16):=decide_eq_decide.2 om;refine acO qg9 ?_;simp (disch:=omega) only[qkE,go_sem]
   repeat' first
    |((first|refine cA (c1 _) ?_ ?_|refine cA (c2 _) ?_ ?_);exact flk;simp (disch:=omega) only[k7,go_sem])
    |(apply qe;exact rvk;simp only[go_sem];exact qk)
    |with_reducible apply aiA
   all_goals try exact clz
  |false=>
   rw[g2]at c2;refine acO qg9 ?_;simp (disch:=omega) only[qkE,go_sem]
   repeat' first
    |((first|refine cA (c1 _) ?_ ?_|refine cA (c2 _) ?_ ?_);exact flk;simp (disch:=omega) only[go_sem])
    |(apply qe;exact rvk;simp only[go_sem];exact qk)
    |with_reducible apply aiA
   all_goals try exact clz
 |false=>
  rw[g]at c1;rw[ine (by simp)]at c1 ⊢;have c2:=fun h=>t44 s h hs
  cases g2:jp s with
  |true=>
   rw[g2]at c2;refine acO qg9 ?_;simp (disch:=omega) only[qkE,go_sem]
   repeat' first
    |((first|refine cA (c1 _) ?_ ?_|refine cA (c2 _) ?_ ?_);exact flk;simp (disch:=omega) only[go_sem])
    |(apply qe;exact rvk;simp only[go_sem];exact qk)
    |with_reducible apply aiA
   all_goals try exact clz
  |false=>
   rw[g2]at c2;refine acO qg9 ?_;simp (disch:=omega) only[qkE,go_sem]
   repeat' first
    |((first|refine cA (c1 _) ?_ ?_|refine cA (c2 _) ?_ ?_);exact flk;simp (disch:=omega) only[go_sem])
    |(apply qe;exact rvk;simp only[go_sem];exact qk)
    |with_reducible apply aiA
   all_goals try exact clz
theorem qq6(s:Str)(h:1≤s.length):qfG s=decide (((s[s.length-1]?).getD 0).toNat=42):=by
 unfold qfG;rw[dqt h,Bool.true_and];have e:s.drop (s.length-1)= [(s[s.length-1]?).getD 0]:=by
  rw[List.drop_eq_getElem_cons (show s.length-1<s.length by omega),zp (show s.length-1<s.length by omega),List.drop_eq_nil_of_le om];rfl
 rw[e];congr 1;simp only[List.cons.injEq,and_true,eq_iff_iff];exact⟨fun h=>by rw[h];rfl,fun h=>UInt8.toNat_inj.1 (by rw[h];rfl)⟩
theorem qCR(s:Str)(h:List AObj)(hs:s.length≤1000000000):ACalls Tryz.prog 164 [.str s] h (.bool (qiS s)) h:=by
 unfold qiS;have c1:=fun h=>t53 s h hs
 by_cases g:1≤s.length
 ·rw[qq6 s g];have k0:((0:Int)<s.length)=True:=eqt om;have k2:((s.length:Int)-1).toNat=s.length-1:=by omega
  have k3:(0≤(s.length:Int)-1)=True:=eqt om;have k4:((s.length:Int)-1≤s.length)=True:=eqt om;have k5:((s.length:Int)-1<s.length)=True:=eqt om;obtain⟨b,hb⟩: ∃b,b=(s[s.length-1]?).getD 0:=⟨_,rfl⟩
  have eb:=hb.symm;rw[eb];have c2:=fun h=>t53 (s.take (s.length-1)) h (by simp;omega)
  by_cases g2:b.toNat=42
  ·have k6:((b.toNat:Int)=42)=True:=eqt om;rw[ipo (by simpa using g2)]
   by_cases g3:s.length≤16
   ·have k7:((s.length:Int)≤16)=True:=eqt om;rw[dqt g3];refine acO qg8 ?_;simp (disch:=omega) only[qkD,k0,k2,k3,k4,k5,eb,k6,k7,go_sem]
    repeat' first
     |(refine cG (fun e=>c2 _) flk ?_;simp (disch:=omega) only[go_sem])
     |(apply qe;exact rvk;simp only[go_sem];exact qk)
     |with_reducible apply aiA
    all_goals try exact clz
   ·have k7:((s.length:Int)≤16)=False:=eqf om;rw[dqf g3];refine acO qg8 ?_;simp (disch:=omega) only[qkD,k0,k2,k3,k4,k5,eb,k6,k7,go_sem]
    repeat' first
     |(refine qm ( .bool false) ?_;simp (disch:=omega) only[go_sem])
     |(apply qe;exact rvk;simp only[go_sem];exact qk)
  ·have k6:((b.toNat:Int)=42)=False:=eqf om;rw[ine (by simpa using g2)];refine acO qg8 ?_;simp (disch:=omega) only[qkD,k0,k2,k3,k4,k5,eb,k6,go_sem]
   repeat' first
    |(refine cA (c1 _) flk ?_;simp (disch:=omega) only[go_sem])
    |(apply qe;exact rvk;simp only[go_sem];exact qk)
 ·have e:s= []:=List.eq_nil_of_length_eq_zero om;subst e;rw[ine (by decide)];refine acO qg8 ?_;simp (disch:=omega) only[qkD,go_sem]
  repeat' first
   |((first|refine cA (c1 _) ?_ ?_|refine cG (fun e=>c1 _) ?_ ?_);exact flk;simp (disch:=omega) only[go_sem])
   |(apply qe;exact rvk;simp only[go_sem];exact qk)
   |with_reducible first|intro _|apply aiA
  all_goals try exact clz
def qaZ(f:Nat→Int):Nat→Nat→Int
 |_,0=>0
 |i,k+1=>if f i≠0 then f i else qaZ f (i+1) k
theorem qeX{f:Nat→Int}{n i:Nat}(hi:i≤n)(h: ∀j,j<i→f j=0):qaZ f 0 n=qaZ f i (n-i):=by
 induction i with
 |zero=>rfl
 |succ i ih=>
  rw[ih om (fun j hj=>h j om),show n-i=(n-(i+1))+1 by omega];simp only[qaZ,h i om,ne_eq,not_true_eq_false,if_false]
theorem qO{f:Nat→Int}{n i:Nat}(hi:i<n)(h: ∀j,j<i→f j=0)(hp:f i≠0):qaZ f 0 n=f i:=by
 rw[qeX om h,show n-i=(n-i-1)+1 by omega];simp only[qaZ];rw[ipo hp]
theorem qz{f:Nat→Int}{n:Nat}(h: ∀j,j<n→f j=0):qaZ f 0 n=0:=by
 rw[qeX (nlr n) h,Nat.sub_self];rfl
theorem jS{f:Nat→Int}{n:Nat}:qaZ f 0 n=0↔ ∀j,j<n→f j=0:=by
 refine⟨fun h=> ?_,qz⟩;intro j
 induction j using Nat.strongRecOn with
 |_ j ih=>
  intro hj
  by_cases e:f j=0
  ·exact e
  ·rw[qO hj (fun k hk=>ih k hk om) e]at h;exact absurd h e
def qbC(b:Int)(l:List Int)(i:Nat):Int:=if l.getD i 0<0∨b≤l.getD i 0 then 2 else if 0<i∧l.getD i 0≤l.getD (i-1) 0 then 10 else 0
def qai(b:Int)(l:List Int):Int:=qaZ (qbC b l) 0 l.length
theorem qDG(l:List Int)(b:Int)(h:List AObj)(hl:l.length≤1000000000):ACalls Tryz.prog 189 [ql l,.int .i64 b] h (.int .i64 (qai b l)) h:=by
 obtain⟨R,hR⟩: ∃R,R=qai b l:=⟨_,rfl⟩
 rw[←hR];unfold qai at hR;refine acO qyV ?_;simp (disch:=omega) only[qxf,ql,go_sem];refine qn (T:=fun i:Nat=>qI 33 [(0,ql l),(1,.int .i64 b),(7,ql l),(8,.int .i64 l.length),(9,.int .i64 i)]) (H:=fun _=>h) (inv:=fun i=>i≤l.length∧ ∀j,j<i→qbC b l j=0) (m:=fun i=>l.length-i) 0 ⟨nzl _,fun j hj=>by omega⟩ (Wk.temps ?_) ?_
 ·(simp only[ql,go_sem,qj,qd,qa,qi];try (repeat' first|(with_reducible apply aiA)|(apply qh;omega)|(apply qg;rfl)|exact qk))
 rintro i ⟨i1,i2⟩ K hK
 by_cases hi:i<l.length
 ·have k1:((i:Int)<l.length)=True:=eqt om;have hE:=qO (n:=l.length) hi i2;rw[←hR]at hE;unfold qbC at hE;have hs:qbC b l i=if l.getD i 0<0∨b≤l.getD i 0 then 2 else if 0<i∧l.getD i 0≤l.getD (i-1) 0 then 10 else 0:=rfl
  obtain⟨v,hv⟩: ∃v,v=l.getD i 0:=⟨_,rfl⟩
  obtain⟨u,hu⟩: ∃u,u=l.getD (i-1) 0:=⟨_,rfl⟩
  have ev:=hv.symm;have eu:=hu.symm;rw[ev,eu]at hE hs
  by_cases g1:v<0
  ·have q1:(v<0)=True:=eqt g1;have hV:R=2:=by rw[hE]<;>rw[ipo (.inl g1)];decide
   rw[hV];simp (disch:=omega) only[ql,k1,ev,q1,go_sem]
   repeat' first
    |(apply qe;exact rvk;simp only[go_sem];exact qk)
    |with_reducible apply aiA
   all_goals try exact clz
  have q1:(v<0)=False:=eqf g1
  by_cases g2:b≤v
  ·have q2:(b≤v)=True:=eqt g2;have hV:R=2:=by rw[hE]<;>rw[ipo (.inr g2)];decide
   rw[hV];simp (disch:=omega) only[ql,k1,ev,q1,q2,go_sem]
   repeat' first
    |(apply qe;exact rvk;simp only[go_sem];exact qk)
    |with_reducible apply aiA
   all_goals try exact clz
  have q2:(b≤v)=False:=eqf g2;rw[ine (by rintro (h|h)<;>contradiction)]at hE hs
  by_cases g3:0<i
  ·have q3:((0:Int)<i)=True:=eqt om;have q4:((i:Int)-1).toNat=i-1:=by omega
   have q5:(0≤(i:Int)-1)=True:=eqt om;have q6:((i:Int)-1<l.length)=True:=eqt om
   by_cases g4:v≤u
   ·have q7:(v≤u)=True:=eqt g4;have hV:R=10:=by rw[hE]<;>rw[ipo ⟨g3,g4⟩];decide
    rw[hV];simp (disch:=omega) only[ql,k1,ev,eu,q1,q2,q3,q4,q5,q6,q7,go_sem]
    repeat' first
     |(apply qe;exact rvk;simp only[go_sem];exact qk)
     |with_reducible apply aiA
    all_goals try exact clz
   ·have q7:(v≤u)=False:=eqf g4;rw[ine (fun hc=>g4 hc.2)]at hs;simp (disch:=omega) only[ql,k1,ev,eu,q1,q2,q3,q4,q5,q6,q7,go_sem]
    repeat' first
     |with_reducible apply aiA
    all_goals try exact clz
    refine hK _ _ (i+1) ⟨hi,fun j hj=> ?_⟩ om (Wk.temps ?_)
    ·by_cases e:j=i
     ·subst e;exact hs
     ·exact i2 j om
    ·(simp only[ql,go_sem,qj,qd,qa,qi];try (repeat' first|(with_reducible apply aiA)|(apply qh;omega)|(apply qg;rfl)|exact qk))
  ·have q3:((0:Int)<i)=False:=eqf om;rw[ine (fun hc=>g3 hc.1)]at hs;simp (disch:=omega) only[ql,k1,ev,q1,q2,q3,go_sem]
   repeat' first
    |(apply qe;exact rvk;simp only[go_sem];apply qh)
    |with_reducible first|intro _|apply aiA
   all_goals try exact clz
   refine hK _ _ (i+1) ⟨hi,fun j hj=> ?_⟩ om (Wk.temps ?_)
   ·by_cases e:j=i
    ·subst e;exact hs
    ·exact i2 j om
   ·(simp only[ql,go_sem,qj,qd,qa,qi];try (repeat' first|(with_reducible apply aiA)|(apply qh;omega)|(apply qg;rfl)|exact qk))
 ·have k1:((i:Int)<l.length)=False:=eqf om;have hV:R=0:=by rw[hR,qz (fun j hj=>i2 j om)]
  rw[hV];simp (disch:=omega) only[ql,k1,go_sem]
  repeat' first
   |(apply qe;exact rvk;simp only[go_sem];exact qk)
theorem qDH(l:List Int)(b:Int)(h:List AObj)(hl:l.length≤1000000000):ACalls Tryz.prog 168 [.int .i64 b,ql l] h (.int .i64 (qai b l)) h:=by
 obtain⟨R,hR⟩: ∃R,R=qai b l:=⟨_,rfl⟩
 rw[←hR];unfold qai at hR;refine acO qyQ ?_;simp (disch:=omega) only[qxb,ql,go_sem];refine qn (T:=fun i:Nat=>qI 39 [(0,.int .i64 b),(1,ql l),(5,.int .i64 i)]) (H:=fun _=>h) (inv:=fun i=>i≤l.length∧ ∀j,j<i→qbC b l j=0) (m:=fun i=>l.length-i) 0 ⟨nzl _,fun j hj=>by omega⟩ (Wk.temps ?_) ?_
 ·(simp only[ql,go_sem,qj,qd,qa,qi];try (repeat' first|(with_reducible apply aiA)|(apply qh;omega)|(apply qg;rfl)|exact qk))
 rintro i ⟨i1,i2⟩ K hK
 by_cases hi:i<l.length
 ·have k1:((i:Int)<l.length)=True:=eqt om;have hE:=qO (n:=l.length) hi i2;rw[←hR]at hE;unfold qbC at hE;have hs:qbC b l i=if l.getD i 0<0∨b≤l.getD i 0 then 2 else if 0<i∧l.getD i 0≤l.getD (i-1) 0 then 10 else 0:=rfl
  obtain⟨v,hv⟩: ∃v,v=l.getD i 0:=⟨_,rfl⟩
  obtain⟨u,hu⟩: ∃u,u=l.getD (i-1) 0:=⟨_,rfl⟩
  have ev:=hv.symm;have eu:=hu.symm;rw[ev,eu]at hE hs
  by_cases g1:v<0
  ·have q1:(v<0)=True:=eqt g1;have hV:R=2:=by rw[hE]<;>rw[ipo (.inl g1)];decide
   rw[hV];simp (disch:=omega) only[ql,k1,ev,q1,go_sem]
   repeat' first
    |(apply qe;exact rvk;simp only[go_sem];exact qk)
    |with_reducible apply aiA
   all_goals try exact clz
  have q1:(v<0)=False:=eqf g1
  by_cases g2:b≤v
  ·have q2:(b≤v)=True:=eqt g2;have hV:R=2:=by rw[hE]<;>rw[ipo (.inr g2)];decide
   rw[hV];simp (disch:=omega) only[ql,k1,ev,q1,q2,go_sem]
   repeat' first
    |(apply qe;exact rvk;simp only[go_sem];exact qk)
    |with_reducible apply aiA
   all_goals try exact clz
  have q2:(b≤v)=False:=eqf g2;rw[ine (by rintro (h|h)<;>contradiction)]at hE hs
  by_cases g3:0<i
  ·have q3:((0:Int)<i)=True:=eqt om;have q4:((i:Int)-1).toNat=i-1:=by omega
   have q5:(0≤(i:Int)-1)=True:=eqt om;have q6:((i:Int)-1<l.length)=True:=eqt om
   by_cases g4:v≤u
   ·have q7:(v≤u)=True:=eqt g4;have hV:R=10:=by rw[hE]<;>rw[ipo ⟨g3,g4⟩];decide
    rw[hV];simp (disch:=omega) only[ql,k1,ev,eu,q1,q2,q3,q4,q5,q6,q7,go_sem]
    repeat' first
     |(apply qe;exact rvk;simp only[go_sem];exact qk)
     |with_reducible apply aiA
    all_goals try exact clz
   ·have q7:(v≤u)=False:=eqf g4;rw[ine (fun hc=>g4 hc.2)]at hs;simp (disch:=omega) only[ql,k1,ev,eu,q1,q2,q3,q4,q5,q6,q7,go_sem]
    repeat' first
     |with_reducible apply aiA
    all_goals try exact clz
    refine hK _ _ (i+1) ⟨hi,fun j hj=> ?_⟩ om (Wk.temps ?_)
    ·by_cases e:j=i
     ·subst e;exact hs
     ·exact i2 j om
    ·(simp only[ql,go_sem,qj,qd,qa,qi];try (repeat' first|(with_reducible apply aiA)|(apply qh;omega)|(apply qg;rfl)|exact qk))
  ·have q3:((0:Int)<i)=False:=eqf om;rw[ine (fun hc=>g3 hc.1)]at hs;simp (disch:=omega) only[ql,k1,ev,q1,q2,q3,go_sem]
   repeat' first
    |(apply qe;exact rvk;simp only[go_sem];apply qh)
    |with_reducible first|intro _|apply aiA
   all_goals try exact clz
   refine hK _ _ (i+1) ⟨hi,fun j hj=> ?_⟩ om (Wk.temps ?_)
   ·by_cases e:j=i
    ·subst e;exact hs
    ·exact i2 j om
   ·(simp only[ql,go_sem,qj,qd,qa,qi];try (repeat' first|(with_reducible apply aiA)|(apply qh;omega)|(apply qg;rfl)|exact qk))
 ·have k1:((i:Int)<l.length)=False:=eqf om;have hV:R=0:=by rw[hR,qz (fun j hj=>i2 j om)]
  rw[hV];simp (disch:=omega) only[ql,k1,go_sem]
  repeat' first
   |(apply qe;exact rvk;simp only[go_sem];exact qk)
structure Gr where
 name:Str
 mem:List Int
 deriving Inhabited
def grC(g:Gr):List AV:= [.str g.name,ql g.mem]
def qu(gs:List Gr):AV:= .sl gs.length fun i=>grC (gs.getD i default)
def jm(names:List Str)(i:Nat):Int:=if qiS (names.getD i [])=false then 14 else if zd (fun j=>decide (names.getD i []=names.getD j [])) i=true then 7 else 0
def qdT(names:List Str)(gs:List Gr)(i:Nat):Int:=
 if jp (gs.getD i default).name=false then 14 else if zd (fun j=>decide ((gs.getD i default).name=names.getD j [])) names.length=true then 7 else
  if zd (fun j=>decide ((gs.getD i default).name=(gs.getD j default).name)) i=true then 7 else if (gs.getD i default).mem.length=0 then 5 else qai names.length (gs.getD i default).mem
def sgE(names:List Str)(gs:List Gr):Int:=
 if 32<names.length then 4 else if qaZ (jm names) 0 names.length≠0 then qaZ (jm names) 0 names.length else if 16<gs.length then 4 else qaZ (qdT names gs) 0 gs.length
theorem qAj(n:Nat)(g:Nat→Str)(x:Str)(h:List AObj)(hn:n≤1000000000):ACalls Tryz.prog 117 [.sl n (fun j=> [.str (g j)]),.str x] h (.int .i64 (j8 (fun j=>decide (x=g j)) n 0)) h:=by
 have:=qCy qyy n (fun j=> .s (g j)) (.s x) h (fun _ _=>rfl) om
 simpa only[At.v,At.s.injEq] using this
theorem qla(n:Nat)(g:Nat→Str)(x:Str)(h:List AObj)(hn:n≤1000000000):ACalls Tryz.prog 43 [.sl n (fun j=> [.str (g j)]),.str x] h (.bool (zd (fun j=>decide (x=g j)) n)) h:=
 qo9 qCf ⟨rfl,rfl⟩ ⟨rfl,rfl⟩ (qAj n g x h hn)
theorem qiK(n:Nat)(g:Nat→Str)(x:Str)(h:List AObj)(hn:n≤1000000000):ACalls Tryz.prog 165 [.sl n (fun j=> [.str (g j)]),.str x] h (.int .i64 (j8 (fun j=>decide (x=g j)) n 0)) h:=by
 obtain⟨p,hp⟩: ∃p:Nat→Bool,p=fun j=>decide (x=g j):=⟨_,rfl⟩
 have ep: ∀j,p j=decide (x=g j):=fun j=>by rw[hp]
 rw[←hp];refine acO qyO ?_;simp (disch:=omega) only[qw9,go_sem];refine qn (T:=fun i:Nat=>qI 19 [(0,.sl n (fun j=> [.str (g j)])),(1,.str x),(5,.int .i64 i)]) (H:=fun _=>h) (inv:=fun i=>i≤n∧ ∀j,j<i→p j=false) (m:=fun i=>n-i) 0 ⟨nzl _,fun j hj=>by omega⟩ (Wk.temps ?_) ?_
 ·exact tmq
 rintro i ⟨i1,i2⟩ K hK
 by_cases hi:i<n
 ·have k1:((i:Int)<n)=True:=eqt om
  by_cases g0:x=g i
  ·have k2:(g i=x)=True:=eqt g0.symm;rw[kg hi i2 (by rw[ep,dqt g0])];simp (disch:=omega) only[k1,k2,go_sem]
   repeat' first
    |(apply qe;exact rvk;simp only[go_sem];exact qk)
    |with_reducible apply aiA
   all_goals try exact clz
  ·have k2:(g i=x)=False:=eqf (fun e=>g0 e.symm);simp (disch:=omega) only[k1,k2,go_sem]
   repeat' first
    |with_reducible apply aiA
   all_goals try exact clz
   refine hK _ _ (i+1) ⟨hi,fun j hj=> ?_⟩ om (Wk.temps ?_)
   ·by_cases e:j=i
    ·subst e;rw[ep,dqf g0]
    ·exact i2 j om
   ·exact tmq
 ·have k1:((i:Int)<n)=False:=eqf om;rw[kA (p:=p) (n:=n) (fun j hj=>i2 j om)];simp (disch:=omega) only[k1,go_sem]
  repeat' first
   |(apply qe;exact rvk;simp only[go_sem];exact qk)
theorem qD5(x:Gr)(y:Str)(c:AV)(h:List AObj):ACalls Tryz.prog 188 [.agg (grC x),.ip [.str y,c]] h (.bool (decide (y=x.name))) h:=by
 have k:decide (x.name=y)=decide (y=x.name):=decide_eq_decide.2 ⟨Eq.symm,Eq.symm⟩;refine acO qyU ?_;simp (disch:=omega) only[qxe,grC,go_sem]
 repeat' first
  |(apply qb;exact rvk;simp only[go_sem];apply qg)
 all_goals try exact clz
end RC
end
section
namespace AF
open Go
theorem Wk.kill{t:List AV}{h:List AObj}{k v:Nat}{ty:TypeId}{cs:List AV}(hk:qA k h=some (.mem v ty cs)):Wk t h t (setO k h (.emp (v+1))):=by
 intro N w σ a H;have hkl:k<σ.length:=by rw[H.hr.len];exact jd hk
 have ho:=zp hkl;obtain⟨m1,_⟩:=H.hr.obj k _ _ hk ho;obtain⟨g1,g2⟩:=H.hr.kill ho;rw[m1]at g1 g2;exact⟨_,⟨g1,H.sz,fun i c x hc hx=>(H.tm i c x hc hx).ext g2,qaO g2 H.df⟩,g2⟩
theorem Wk.kill0{t:List AV}{h l:List AObj}{v:Nat}{ty:TypeId}{cs:List AV}:Wk t (h++ .mem v ty cs::l) t (h++ .emp (v+1)::l):=by
 have:=Wk.kill (t:=t) (h:=h++ .mem v ty cs::l) (k:=h.length) (v:=v) (ty:=ty) (cs:=cs) (by rw[getO_app0];rfl)
 rwa [setO_app0]at this
end AF
end
section
open Go Go.Proofs AF HY LN
namespace RC
theorem qDZ(n:Nat)(gs:List Gr)(y:Str)(k v:Nat)(c:AV)(h:List AObj)(hk:qA k h=some (.mem v 167 [.str y,c]))(hn:n≤gs.length)(hl:gs.length≤1000000000):
  ACalls Tryz.prog 187 [.sl n (fun j=>grC (gs.getD j default)),.fn (.func 188) [] [.op k v 0]] h (.bool (zd (fun j=>decide (y=(gs.getD j default).name)) n)) h:=by
 have hc:=qQ hk;refine qo9 qyT ⟨rfl,rfl⟩ ⟨rfl,rfl⟩ (qba qrR n (fun j=>grC (gs.getD j default)) (fun j=> .agg (grC (gs.getD j default))) _ [] [.op k v 0] _ h (fun i _=>⟨rfl,by simp[ji,grC],rfl,rfl,rfl⟩) (fun i _=> ?_) om);refine ACalls.borrow ?_ rfl;have e:([AV.agg (grC (gs.getD i default))]++ [AV.op k v 0]).map (rei (fun _=>true) h 8)= [.agg (grC (gs.getD i default)),.ip [rei (fun _=>true) h 7 (.str y),rei (fun _=>true) h 7 c]]:=by
  simp only[lca,lna,List.map_cons,List.map_nil,rei_op,if_true,hc,ipOf_some,List.drop_zero,rei_agg];rfl
 rw[lna,e];exact qD5 _ y _ _
theorem qhR{p q:Nat→Bool}{n:Nat}(h: ∀i,i<n→p i=q i):zd p n=zd q n:=by
 cases e:zd q n with
 |true=>obtain⟨i,h1,h2⟩:=qG.1 e;exact qG.2 ⟨i,h1,by rw[h i h1,h2]⟩
 |false=>exact qo.2 fun i hi=>by rw[h i hi];exact qo.1 e i hi
structure Szs (names:List Str) (gs:List Gr):Prop where
 n:names.length≤1000000000
 g:gs.length≤1000000000
 ns: ∀i,(names.getD i []).length≤1000000000
 gn: ∀i,(gs.getD i default).name.length≤1000000000
 gm: ∀i,(gs.getD i default).mem.length≤1000000000
set_option maxHeartbeats 4000000 in
theorem sgP(names:List Str)(gs:List Gr)(h:List AObj)(hz:Szs names gs):ACalls Tryz.prog 122 [strs names,qu gs] h (.int .i64 (sgE names gs)) h:=by
 obtain⟨z1,z2,z3,z4,z5⟩:=hz;obtain⟨R,hR⟩: ∃R,R=sgE names gs:=⟨_,rfl⟩
 rw[←hR];unfold sgE at hR
 by_cases g0:32<names.length
 ·have k0:((32:Int)<names.length)=True:=eqt om;rw[ipo g0]at hR;rw[hR];refine acO qrQ ?_;simp (disch:=omega) only[qs8,strs,qu,k0,go_sem]
  repeat' first
   |(apply qb;exact rvk;simp only[go_sem];exact qk)
 have k0:((32:Int)<names.length)=False:=eqf om;rw[ine g0]at hR;refine acO qrQ ?_;simp (disch:=omega) only[qs8,strs,qu,k0,go_sem];refine qn (T:=fun i:Nat=>qI 70 [(0,strs names),(1,qu gs),(13,strs names),(14,.int .i64 names.length),(15,.int .i64 i)]) (H:=fun _=>h++ [.emp 0]) (inv:=fun i=>i≤names.length∧ ∀j,j<i→jm names j=0) (m:=fun i=>names.length-i) 0 ⟨nzl _,fun j hj=>by omega⟩ (Wk.temps ?_) ?_
 ·(simp only[strs,qu,go_sem,qj,qd,qa,qi];try (repeat' first|(with_reducible apply aiA)|(apply qh;omega)|(apply qg;rfl)|exact qk))
 rintro i ⟨i1,i2⟩ K hK
 by_cases hi:i<names.length
 ·have k1:((i:Int)<names.length)=True:=eqt om;have k2:((i:Int)≤names.length)=True:=eqt om;have hE:=qO (f:=jm names) hi i2;have hs:jm names i=if qiS (names.getD i [])=false then 14 else if zd (fun j=>decide (names.getD i []=names.getD j [])) i=true then 7 else 0:=rfl
  have c87:=fun h=>qCQ (names.getD i []) h (z3 i)
  have c88:=fun h=>qla i (fun j=>names.getD j []) (names.getD i []) h om
  obtain⟨s,hsx⟩: ∃s,s=names.getD i []:=⟨_,rfl⟩
  have es:=hsx.symm;rw[es]at hs c87;simp only[es]at hs c88;cases g1:qiS s with
  |false=>
   rw[g1]at c87;rw[ipo g1]at hs;have hV:R=14:=by rw[hR,hE (by rw[hs];decide),hs];rfl
   rw[hV];simp (disch:=omega) only[strs,qu,k1,es,go_sem]
   repeat' first
    |(refine cA (c87 _) flk ?_;simp (disch:=omega) only[k2,go_sem])
    |(apply qb;exact rvk;simp only[go_sem];exact qk)
    |with_reducible apply aiA
   all_goals try exact clz
  |true=>
  rw[g1]at c87;rw[ine (by rw[g1];simp)]at hs;cases g2:zd (fun j=>decide (s=names.getD j [])) i with
  |true=>
   rw[g2]at c88;rw[ipo g2]at hs;have hV:R=7:=by rw[hR,hE (by rw[hs];decide),hs];rfl
   rw[hV];simp (disch:=omega) only[strs,qu,k1,es,go_sem]
   repeat' first
    |((first|refine cA (c87 _) ?_ ?_|refine cA (c88 _) ?_ ?_);exact flk;simp (disch:=omega) only[k2,Nat.sub_zero,go_sem])
    |(apply qb;exact rvk;simp only[go_sem];exact qk)
    |with_reducible apply aiA
   all_goals try exact clz
  |false=>
   rw[g2]at c88;rw[ine (by rw[g2];simp)]at hs;simp (disch:=omega) only[strs,qu,k1,es,go_sem]
   repeat' first
    |((first|refine cA (c87 _) ?_ ?_|refine cA (c88 _) ?_ ?_);exact flk;simp (disch:=omega) only[k2,Nat.sub_zero,go_sem])
    |with_reducible apply aiA
   all_goals try exact clz
   refine hK _ _ (i+1) ⟨hi,fun j hj=> ?_⟩ om (Wk.temps ?_)
   ·by_cases e:j=i
    ·subst e;exact hs
    ·exact i2 j om
   ·(simp only[strs,qu,go_sem,qj,qd,qa,qi];try (repeat' first|(with_reducible apply aiA)|(apply qh;omega)|(apply qg;rfl)|exact qk))
 have k1:((i:Int)<names.length)=False:=eqf om;have hn0:=qz (f:=jm names) (fun j (hj:j<names.length)=>i2 j om);rw[ine (fun hc=>hc hn0)]at hR
 by_cases g1:16<gs.length
 ·have k2:((16:Int)<gs.length)=True:=eqt om;rw[ipo g1]at hR;rw[hR];simp (disch:=omega) only[strs,qu,k1,k2,go_sem]
  repeat' first
   |(apply qb;exact rvk;simp only[go_sem];exact qk)
 have k2:((16:Int)<gs.length)=False:=eqf om;rw[ine g1]at hR;simp (disch:=omega) only[strs,qu,k1,k2,go_sem];refine qn (T:=fun i:Nat×Nat=>qI 70 [(0,strs names),(1,qu gs),(32,qu gs),(33,.int .i64 gs.length),(34,.int .i64 i.1)]) (H:=fun i=>h++ [.emp i.2]) (inv:=fun i=>i.1≤gs.length∧ ∀j,j<i.1→qdT names gs j=0) (m:=fun i=>gs.length-i.1) (0,0) ⟨nzl _,fun j hj=>absurd hj (nnz j)⟩ (Wk.temps ?_) ?_
 ·(simp only[strs,qu,go_sem,qj,qd,qa,qi];try (repeat' first|(with_reducible apply aiA)|(apply qh;omega)|(apply qg;rfl)|exact qk))
 rintro⟨i,v⟩ ⟨i1,i2⟩ K hK;simp only at i1 i2 hK
 by_cases hi:i<gs.length
 ·have k3:((i:Int)<gs.length)=True:=eqt om;have k4:((i:Int)≤gs.length)=True:=eqt om;have hE:=qO (f:=qdT names gs) hi i2;have hs:qdT names gs i=if jp (gs.getD i default).name=false then 14 else if zd (fun j=>decide ((gs.getD i default).name=names.getD j [])) names.length=true then 7 else
   if zd (fun j=>decide ((gs.getD i default).name=(gs.getD j default).name)) i=true then 7 else if (gs.getD i default).mem.length=0 then 5 else qai names.length (gs.getD i default).mem:=rfl
  have z4i:=z4 i;have z5i:=z5 i;obtain⟨g,hg⟩: ∃g,g=gs.getD i default:=⟨_,rfl⟩
  have eg:=hg.symm;simp only[eg]at hs z4i z5i;have c89:=fun h=>t44 g.name h z4i
  have c88:=fun h=>qla names.length (fun j=>names.getD j []) g.name h z1
  have c90:=fun h hk=>qDZ i gs g.name (List.length h) (v+1) (ql g.mem) (h++ [.mem (v+1) 167 (grC g)]) hk om z2
  have c90:=c90 h (by rw[getO_app0];rfl);have c92:=fun h=>qDG g.mem names.length h z5i
  cases g2:jp g.name with
  |false=>
   rw[g2]at c89;rw[ipo g2]at hs;have hV:R=14:=by rw[hR,hE (by rw[hs];decide),hs]
   rw[hV];simp (disch:=omega) only[strs,qu,grC,ql,k3,eg,go_sem]
   repeat' first
    |(refine cA (c89 _) flk ?_;simp (disch:=omega) only[go_sem])
    |(apply qb;exact rvk;simp only[go_sem];exact qk)
    |with_reducible apply aiA
   all_goals try exact clz
  |true=>
  rw[g2]at c89;rw[ine (by rw[g2];simp)]at hs;cases g3:zd (fun j=>decide (g.name=names.getD j [])) names.length with
  |true=>
   rw[g3]at c88;rw[ipo g3]at hs;have hV:R=7:=by rw[hR,hE (by rw[hs];decide),hs]
   rw[hV];simp (disch:=omega) only[strs,qu,grC,ql,k3,eg,go_sem]
   repeat' first
    |(refine qm ( .bool false) ?_;simp (disch:=omega) only[go_sem])
    |((first|refine cA (c89 _) ?_ ?_|refine cA (c88 _) ?_ ?_);exact flk;simp (disch:=omega) only[k4,go_sem])
    |(apply qb;exact rvk;simp only[go_sem];exact qk)
    |with_reducible apply aiA
   all_goals try exact clz
  |false=>
  rw[g3]at c88;rw[ine (by rw[g3];simp)]at hs;cases g4:zd (fun j=>decide (g.name=(gs.getD j default).name)) i with
  |true=>
   rw[g4]at c90;rw[ipo g4]at hs;have hV:R=7:=by rw[hR,hE (by rw[hs];decide),hs]
   rw[hV];simp only[grC,ql]at c90;simp (disch:=omega) only[strs,qu,grC,ql,k3,eg,go_sem]
   repeat' first
    |((first|refine cA (c89 _) ?_ ?_|refine cA (c88 _) ?_ ?_|refine cG (fun e=>c90) ?_ ?_);exact flk;simp (disch:=omega) only[k4,Nat.sub_zero,go_sem])
    |(apply qb;exact rvk;simp only[go_sem];exact qk)
    |with_reducible apply aiA
   all_goals try exact clz
  |false=>
  rw[g4]at c90;rw[ine (by rw[g4];simp)]at hs;simp only[grC,ql]at c90
  by_cases g5:g.mem.length=0
  ·have k5:((g.mem.length:Int)=0)=True:=eqt om;rw[ipo g5]at hs;have hV:R=5:=by rw[hR,hE (by rw[hs];decide),hs]
   rw[hV];simp (disch:=omega) only[strs,qu,grC,ql,k3,eg,go_sem]
   repeat' first
    |((first|refine cA (c89 _) ?_ ?_|refine cA (c88 _) ?_ ?_|refine cG (fun e=>c90) ?_ ?_);exact flk;simp (disch:=omega) only[k4,Nat.sub_zero,k5,go_sem])
    |(apply qb;exact rvk;simp only[go_sem];exact qk)
    |with_reducible apply aiA
   all_goals try exact clz
  have k5:((g.mem.length:Int)=0)=False:=eqf om;rw[ine g5]at hs;unfold ql at c92;obtain⟨e,he⟩: ∃e,e=qai names.length g.mem:=⟨_,rfl⟩
  rw[←he]at c92 hs
  by_cases g6:e=0
  ·have k6:(e=0)=True:=eqt g6;simp (disch:=omega) only[strs,qu,grC,ql,k3,eg,go_sem]
   repeat' first
    |((first|refine cA (c89 _) ?_ ?_|refine cA (c88 _) ?_ ?_|refine cG (fun e=>c90) ?_ ?_|refine cA (c92 _) ?_ ?_);exact flk;simp (disch:=omega) only[k4,Nat.sub_zero,k5,k6,go_sem])
    |with_reducible apply aiA
   all_goals try exact clz
   refine hK _ _ (i+1,v+1+1) ⟨hi,fun j hj=> ?_⟩ (by simp only;omega) (Wk.trans Wk.kill0 (Wk.temps ?_))
   ·by_cases e':j=i
    ·subst e';rw[hs,g6]
    ·exact i2 j (by simp only at hj;omega)
   ·(simp only[strs,qu,go_sem,qj,qd,qa,qi];try (repeat' first|(with_reducible apply aiA)|(apply qh;omega)|(apply qg;rfl)|exact qk))
  ·have k6:(e=0)=False:=eqf g6;have hV:R=e:=by rw[hR,hE (by rw[hs];exact g6),hs]
   rw[hV];simp (disch:=omega) only[strs,qu,grC,ql,k3,eg,go_sem]
   repeat' first
    |((first|refine cA (c89 _) ?_ ?_|refine cA (c88 _) ?_ ?_|refine cG (fun e=>c90) ?_ ?_|refine cA (c92 _) ?_ ?_);exact flk;simp (disch:=omega) only[k4,Nat.sub_zero,k5,k6,go_sem])
    |(apply qb;exact rvk;simp only[go_sem];exact qk)
    |with_reducible apply aiA
   all_goals try exact clz
 ·have k3:((i:Int)<gs.length)=False:=eqf om;rw[qz (fun j (hj:j<gs.length)=>i2 j om)]at hR;rw[hR];simp (disch:=omega) only[strs,qu,k3,go_sem]
  repeat' first
   |(apply qb;exact rvk;simp only[go_sem];exact qk)
end RC
end
