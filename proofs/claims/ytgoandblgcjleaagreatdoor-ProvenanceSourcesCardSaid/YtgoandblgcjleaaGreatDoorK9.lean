import Derived.Test.YtgoandblgcjleaaGreatDoorK8
import Derived.Test.YtgoandblgcjleaaGreatDoorK3
import Derived.Test.YtgoandblgcjleaaGreatDoorK4
import Derived.Test.YtgoandblgcjleaaGreatDoorProg
import Derived.Lib.AppendIntMem
import Derived.Stop.LaidErr
import Derived.Lib.ItoaLen
import Derived.Test.YtgoandblgcjleaaGreatDoorK1
import Derived.RangeFuncBox
import Derived.Laws.Rows
import Derived.Shelf.Strings.OnBuilder
set_option linter.all false
set_option linter.unusedSimpArgs false
set_option linter.unusedVariables false
set_option linter.unusedSectionVars false
set_option maxHeartbeats 64000000
set_option maxRecDepth 100000
section
open Go Go.Proofs AF HY
namespace HY
theorem qcO{l:List (List UInt8)}{p:List UInt8→Bool}{i:Nat}(h:i<l.length):(l.take (i+1)).any p=((l.take i).any p||p (l.getD i [])):=by
 rw[qlK l h,List.any_append];simp
theorem qtk{l:List (List UInt8)}{p:List UInt8→Bool}{i:Nat}(h:i<l.length)(hp:p (l.getD i [])=true):l.any p=true:=by
 rw[List.any_eq_true];refine⟨l.getD i [],?_,hp⟩;rw[gdqA,zY h];exact List.getElem_mem h
theorem qqN{s:List UInt8}{i:Nat}(h:i<(qeq s).length):0<((qeq s).getD i []).length:=by
 apply List.length_pos_iff.2;apply qqO (s:=s);rw[gdqA,zY h];exact List.getElem_mem h
set_option maxHeartbeats 4000000 in
theorem qAB(s:List UInt8)(h:List AObj)(hs:s.length≤1000000000):ACalls Tryz.prog 288 [.str s] h (.int .i64 (qam s)) h:=by
 have hit:=qyv s hs;unfold qam
 by_cases hl:65536<s.length
 ·have hl':(65536<(s.length:Int))=True:=eqt om;rw[ipo hl];refine qt qpr (by simp) ?_;simp only[lco,lnl,Nat.reduceAdd,Nat.reduceSub,List.replicate,lca,lna];simp (disch:=omega) only[qqs,hl',go_sem]
  repeat' first
   |(apply qb;exact rvk;simp only[go_sem];exact qi)
  all_goals trace_state
 ·have hl':(65536<(s.length:Int))=False:=eqf om;rw[ine hl];refine qt qpr (by simp) ?_;simp only[lco,lnl,Nat.reduceAdd,Nat.reduceSub,List.replicate,lca,lna];simp (disch:=omega) only[qqs,hl',go_sem]
  repeat' first
   |(refine qw (t91 s _) ?_ ?_;exact flk;simp (disch:=omega) only[go_sem])
  refine qhg (xs:=qdA s) hit (by intro a ha;simp[qdA]at ha;obtain⟨_,_,_,rfl⟩:=ha;rfl)
   (S:=fun i hh=>hh=h++ [.mem 1 35 [.int .i64 0]]∧((qeq s).take i).any zg=false)
   (E:=fun e hh=>e= .ret∧hh=h++ [.mem 1 35 [.int .i64 11]]∧(qeq s).any zg=true) ?_ ?_ ?_ ?_ ?_ ?_ ?_
  ·rintro i hh ⟨rfl,_⟩;exact LowI.refl _
  ·rintro e hh ⟨_,rfl,_⟩;refine LowI.app rfl (fun o ho=> ?_);simp only[List.mem_cons,List.not_mem_nil,or_false]at ho;subst ho;right;constructor<;>(intro c hc;simp at hc;subst hc;rfl)
  ·exact⟨rfl,by simp⟩
  ·simp[zT,zT.lowVs,qjo]
   try omega
  ·rintro i hh tl L hi ⟨rfl,hno⟩ hlen;obtain⟨n,hx⟩:=qjr s hi;rw[qdB]at hi;rw[hx];have hnx:=qcO (p:=zg) hi;rw[hno,Bool.false_or]at hnx;have hat:=qtk (p:=zg) hi;obtain⟨c,hc⟩: ∃c,c=(qeq s).getD i []:=⟨_,rfl⟩
   have hcl:=qqN hi;rw[←hc]at hcl hnx hat ⊢;simp only[qbw];simp (disch:=omega) only[List.append_assoc,eq_self,jq,go_sem]
   repeat' first
    |(refine qw (qdh _ _) ?_ ?_;exact flk;simp (disch:=omega) only[eq_self,go_sem])
    |with_reducible first|intro _|apply aiA
   all_goals try exact clz
   ·rename_i hx;exact⟨h++ [.mem 1 35 [.int .i64 11]],by simp,by simp,by simp,hat (by unfold zg;simpa using hx)⟩
   ·rename_i hx;exact⟨h++ [.mem 1 35 [.int .i64 0]],by simp,by simp,by simp,by rw[hnx];unfold zg;simpa using hx⟩
  ·rintro hh ⟨rfl,hno⟩;rw[qdB,List.take_length]at hno;rw[hno];simp (disch:=omega) only[go_sem]
   repeat' first
    |(apply qb;exact rvk;simp only[go_sem];exact qi)
   all_goals trace_state
  ·rintro e hh ⟨rfl,rfl,hb⟩;rw[hb];show Ex.inBlock 0 _ .ret _ _;simp (disch:=omega) only[go_sem]
   repeat' first
    |(apply qb;exact rvk;simp only[go_sem];exact qi)
   all_goals trace_state
theorem qAD(c:UInt8)(h:List AObj):ACalls Tryz.prog 290 [.int .u8 (c.toNat:Int)] h (.bool (spc c)) h:=by
 refine qt qvs (by simp) ?_;simp only[lco,lnl,Nat.reduceAdd,Nat.reduceSub,List.replicate,lca,lna,lan];simp (disch:=omega) only[qt4,go_sem]
 repeat' first
  |(refine qw (qdh c _) ?_ ?_;exact flk;simp (disch:=omega) only[go_sem])
  |(apply qh;exact rvk;simp only[go_sem];exact qi)
def kM(s:List UInt8):AV:= .sl s.length fun i=> [.int .u8 ((s.getD i 0).toNat:Int)]
def qbt(p:UInt8→Bool):List UInt8→Nat→Int
 | [],_=> -1
 |c::r,i=>if p c=true then i else qbt p r (i+1)
theorem qjG(p:UInt8→Bool): ∀(s:List UInt8) (i:Nat),(0≤qbt p s i↔s.any p=true)∧ -1≤qbt p s i:=by
 intro s
 induction s with
 |nil=>intro i;simp[qbt]
 |cons c r ih=>
  intro i
  by_cases hc:p c=true
  ·have e:qbt p (c::r) i=i:=ipo hc;rw[e,List.any_cons,hc];simp
   try omega
  ·have e:qbt p (c::r) i=qbt p r (i+1):=ine hc;rw[e,List.any_cons];have hc':p c=false:=by simpa using hc
   rw[hc',Bool.false_or];exact ih (i+1)
theorem qjF(p:UInt8→Bool)(s:List UInt8)(i:Nat):decide (0≤qbt p s i)=s.any p:=by
 rw[Bool.eq_iff_iff,decide_eq_true_eq];exact (qjG p s i).1
theorem qAG(s:List UInt8)(p:UInt8→Bool)(F:Nat)(h:List AObj)(hs:s.length≤1000000000)(hp: ∀(c:UInt8) (h:List AObj),ACalls Tryz.prog F [.int .u8 (c.toNat:Int)] h (.bool (p c)) h):ACalls Tryz.prog 308 [kM s,.fn (.func F) [] []] h (.int .i64 (qbt p s 0)) h:=by
 refine qt qvy (by simp) ?_;simp only[lco,lnl,Nat.reduceAdd,Nat.reduceSub,List.replicate,lca,lna,lan];simp (disch:=omega) only[qt9,kM,go_sem];refine qn (T:=fun i:Nat=>qP 19 [(0,kM s),(1,.fn (.func F) [] []),(6,kM s),(7,.int .i64 s.length),(8,.int .i64 i)]) (H:=fun _=>h) (inv:=fun i=>i≤s.length∧qbt p s 0=qbt p (s.drop i) i) (m:=fun i=>s.length-i) 0 ⟨om,by simp⟩ (Wk.temps ?_) ?_
 ·(simp only[kM,qP,List.foldl,go_sem,qf,qc,qa,qe];try (repeat' first|(with_reducible apply aiA)|(apply qg;omega)|(apply qd;rfl)|exact qi))
 ·rintro i ⟨i1,i2⟩ K hK;rw[i2]
  by_cases hi:i<s.length
  ·have e:s.drop i=s.getD i 0::s.drop (i+1):=by rw[List.drop_eq_getElem_cons hi];simp[gdqA,hi]
   rw[e]at i2 ⊢;simp only[qbt]at i2 ⊢;have hpc:=fun h=>hp (s.getD i 0) h
   cases hb:p (s.getD i 0)with
   |true=>
    rw[hb]at hpc;simp (disch:=omega) only[qP,List.foldl,kM,go_sem]
    repeat' first
     |(refine qu (hpc _) ?_;simp (disch:=omega) only[go_sem,qm])
     |(apply qh;exact rvk;simp only[go_sem];first|exact qi|apply qg)
     |with_reducible first|intro _|apply aiA
    all_goals try exact clz
   |false=>
    rw[hb]at hpc i2;simp (disch:=omega) only[qP,List.foldl,kM,go_sem]
    repeat' first
     |(refine qu (hpc _) ?_;simp (disch:=omega) only[go_sem,qm])
     |(apply qh;exact rvk;simp only[go_sem];apply qg)
     |with_reducible first|intro _|apply aiA
    all_goals try exact clz
    refine hK _ _ (i+1) ⟨om,by rw[i2];simp⟩ om (Wk.temps ?_)
    (simp only[kM,qP,List.foldl,go_sem,qf,qc,qa,qe];try (repeat' first|(with_reducible apply aiA)|(apply qg;omega)|(apply qd;rfl)|exact qi))
  ·have e:i=s.length:=by omega
   subst e;rw[List.drop_length];simp (disch:=omega) only[qP,List.foldl,kM,go_sem]
   repeat' first
    |(apply qh;exact rvk;simp only[go_sem];exact qi)
    |with_reducible first|intro _|apply aiA
   all_goals try exact clz
theorem qAC(s:List UInt8)(p:UInt8→Bool)(F:Nat)(h:List AObj)(hs:s.length≤1000000000)(hp: ∀(c:UInt8) (h:List AObj),ACalls Tryz.prog F [.int .u8 (c.toNat:Int)] h (.bool (p c)) h):ACalls Tryz.prog 289 [kM s,.fn (.func F) [] []] h (.bool (s.any p)) h:=by
 rw[←qjF p s 0];refine qt qvr (by simp) ?_;simp only[lco,lnl,Nat.reduceAdd,Nat.reduceSub,List.replicate,lca,lna,lan];simp (disch:=omega) only[qt3,kM,go_sem]
 repeat' first
  |(refine qw (qAG s p F _ hs hp) ?_ ?_;exact flk;simp (disch:=omega) only[go_sem])
  |(apply qh;exact rvk;simp only[go_sem];exact qi)
theorem t88(s:List UInt8)(h:List AObj)(hs:s.length≤1000000000):ACalls Tryz.prog 247 [.str s] h (.bool (kS s)) h:=by
 obtain⟨c,hc⟩: ∃c,c=qam s:=⟨_,rfl⟩
 have h104: ∀h:List AObj,ACalls Tryz.prog 288 [.str s] h (.int .i64 c) h:=fun h=>by rw[hc];exact qAB s h hs
 have hw:kS s=(decide (0<s.length)&&decide (s.length≤64)&&decide (c=0)&&(decide (kind (ch s 0)=1)||decide (kind (ch s 0)=3))&& !(s.any spc)):=by rw[hc];rfl
 rw[hw]
 by_cases g1:0<s.length
 ·have k1:(s= [])=False:=eqf (by intro e;rw[e]at g1;simp at g1)
  by_cases g2:s.length≤64
  ·have k2:(64<(s.length:Int))=False:=eqf om
   by_cases g3:c=0
   ·refine qt qfO (by simp) ?_;simp only[lco,lnl,Nat.reduceAdd,Nat.reduceSub,List.replicate,lca,lna,lan];simp (disch:=omega) only[qi1,k1,k2,g3,go_sem]
    repeat' first
     |((first|refine qw (qdh _ _) ?_ ?_|refine qw (qAC s spc 290 _ hs qAD) ?_ ?_);exact flk;simp (disch:=omega) only[go_sem])
     |(refine qE (fun e=>⟨?_,h104 _⟩) ?_;exact flk;simp (disch:=omega) only[g3,jq,go_sem])
     |(apply qh;exact rvk;simp only[go_sem];apply qd)
     |with_reducible first|intro _|apply aiA
    all_goals try exact clz
    all_goals (generalize s.any spc=b;grind)
   ·refine qt qfO (by simp) ?_;simp only[lco,lnl,Nat.reduceAdd,Nat.reduceSub,List.replicate,lca,lna,lan];simp (disch:=omega) only[qi1,k1,k2,go_sem]
    repeat' first
     |(refine qE (fun e=>⟨?_,h104 _⟩) ?_;exact flk;simp (disch:=omega) only[g3,jq,go_sem])
     |(apply qh;exact rvk;simp only[go_sem];exact qi)
    all_goals (generalize s.any spc=b;grind)
  ·have k2:(64<(s.length:Int))=True:=eqt om;refine qt qfO (by simp) ?_;simp only[lco,lnl,Nat.reduceAdd,Nat.reduceSub,List.replicate,lca,lna,lan];simp (disch:=omega) only[qi1,k1,k2,go_sem]
   repeat' first
    |(refine qj ((.int .i64 0)) ?_;simp (disch:=omega) only[go_sem])
    |(apply qh;exact rvk;simp only[go_sem];apply qd)
   all_goals (generalize s.any spc=b;grind)
 ·have e:s= []:=List.eq_nil_of_length_eq_zero om;subst e;refine qt qfO (by simp) ?_;simp only[lco,lnl,Nat.reduceAdd,Nat.reduceSub,List.replicate,lca,lna,lan];simp (disch:=omega) only[qi1,go_sem]
  repeat' first
   |(refine qj ((.int .i64 0)) ?_;simp (disch:=omega) only[go_sem])
   |(apply qh;exact rvk;simp only[go_sem];exact qi)
  all_goals (generalize List.any _ spc=b;grind)
end HY
end
section
open Go Go.Proofs AF
def jE:List Nat:= [132,109,174,220,68]
theorem qyg:qH Tryz.prog 53 26 0 [RV.tmp 4] cEQ:=fi Tryz.f53 [] jE []
theorem qvF:qH Tryz.prog 40 26 0 [RV.tmp 4] cEQ:=fi Tryz.f40 [] jE []
theorem quP:qH Tryz.prog 135 9 0 [RV.tmp 4] (cCT 192):=fi Tryz.f135 [] jE []
theorem qu1:qH Tryz.prog 192 19 0 [RV.tmp 4] cIX:=fi Tryz.f192 [] jE []
def qqb:C:=
 ((C.ops [MC 4 (.bool false)]).seq (((C.ops [MV 6 0,O1 7 .len 6,MV 8 1,O1 9 .len 8,BI 10 .neq 7 9]).seq (C.cond (.t 10) ((C.ops [MC 4 (.bool false)]).seq C.ret) C.skip)).seq
 (((C.ops [MC 5 (i6 0)]).seq (C.block 0 (((C.ops [MV 11 5,MV 12 0,O1 13 .len 12,BI 14 .lss 11 13]).seq (C.cond (.t 14) C.skip (C.exit 0))).seq ((C.block 1 ((C.ops [MV 17 0,MV 18
 5,O2 19 (.idxA 1) 17 18,LD 20 19,MV 21 1,MV 22 5,O2 23 (.idxA 1) 21 22,LD 24 23,BI 25 .neq 20 24]).seq (C.cond (.t 25) ((C.ops [MC 4 (.bool false)]).seq C.ret) C.skip))).seq
 (C.ops [MV 15 5,BC 16 .add 15 (i6 1),MV 5 16]))).loop)).seq ((C.ops [MC 4 (.bool true)]).seq
 C.ret))))
theorem qo9:qH Tryz.prog 103 26 0 [RV.tmp 4] qqb:=fi Tryz.f103 [] jE []
theorem qyf:qH Tryz.prog 43 9 0 [RV.tmp 4] (cCT 117):=fi Tryz.f43 [] jE []
theorem quL:qH Tryz.prog 117 19 0 [RV.tmp 4] cIX:=fi Tryz.f117 [] jE []
def qtP:C:=
 ((C.ops [MC 4 (.str []),MC 5 (.bool false)]).seq ((C.ops [MV 6 0,MV 7 1,O2 8 (.call 284 true) 6 7,O1 9 (.ext 0) 8,O1 10 (.ext 1) 8,MV 4 9,MV 5 10]).seq
 C.ret))
theorem qvb:qH Tryz.prog 241 11 0 [RV.tmp 4,RV.tmp 5] qtP:=fi Tryz.f241 [] jE []
def qzk:C:=
 ((C.ops [MC 4 (.bool false)]).seq (((C.ops [MC 5 (i6 0)]).seq (C.block 0 (((C.ops [MV 6 5,MV 7 0,O1 8 .len 7,BI 9 .lss 6 8]).seq (C.cond (.t 9) C.skip (C.exit 0))).seq ((C.block
 1 ((C.ops [MV 12 0,MV 13 5,O2 14 (.idxA 1) 12 13,LD 15 14,O1 16 .slen 15,BC 17 .gtr 16 (i6 20)]).seq (C.cond (.t 17) ((C.ops [MC 4 (.bool true)]).seq C.ret) C.skip))).seq
 (C.ops [MV 10 5,BC 11 .add 10 (i6 1),MV 5 11]))).loop)).seq ((C.ops [MV 18 0,O1 19 .len 18,MV 20 1,BI 21 .gtr 19 20,MV 4 21]).seq
 C.ret)))
theorem qyj:qH Tryz.prog 70 22 0 [RV.tmp 4] qzk:=fi Tryz.f70 [] jE []
def qqr:C:=
 ((C.ops [MC 4 (.str []),MC 5 (.bool false)]).seq (((C.ops [MV 6 0,MV 7 1,O2 8 (.call 304 true) 6 7,O1 9 (.un UnOp.not) 8]).seq (C.cond (.t 9) ((C.ops [MV 10 0,MV 4 10,MC 5
 (.bool false)]).seq C.ret) C.skip)).seq ((C.ops [MV 11 0,MV 12 0,O1 13 .slen 12,MV 14 1,O1 15 .slen 14,BI 16 .sub 13 15,O2 17 (.sslc false true) 11 16,MV 4 17,MC 5 (.bool
 true)]).seq
 C.ret)))
theorem qpq:qH Tryz.prog 284 18 0 [RV.tmp 4,RV.tmp 5] qqr:=fi Tryz.f284 [] jE []
def jk:C:=
 ((C.ops [O1 1 (.box 0 124) 0,MC 2 (i6 0)]).seq (((C.ops [O1 6 (.fldA 4) 1,LD 7 6,BC 8 .lss 7 (i6 0),MV 9 8,P1 10 9 false (.fldA 4) 1,P1 11 9 false (.load none) 10,PC 12 9
 false (.bin .gtr) 11 (i6 31),PT 13 9 12]).seq (C.cond (.t 13) ((C.ops [MC 2 (i6 2)]).seq C.ret) C.skip)).seq ((C.ops [O1 14 (.load (some 6)) 1,OC 15 (.call 255 true) 14 (i6 2),
 O1 16 (.load (some 6)) 1,OC 17 (.call 255 true) 16 (i6 8),MV 3 15,MV 4 17]).seq (((C.ops [MV 18 3,MV 19 18,MG 20 19 true 4,PF 21 19 20]).seq (C.cond (.t 21) ((C.ops [MC 2 (i6
 8)]).seq C.ret) C.skip)).seq ((C.block 0 ((C.ops [MV 51 3,MV 50 51]).seq (C.cond (.t 50) ((C.ops [O1 52 (.fldA 0) 1,LD 53 52,O1 54 (.call 256 true) 53,O1 55 (.un UnOp.not) 54,
 MV 56 55,P1 57 56 false (.fldA 1) 1,P1 58 56 false (.load none) 57,P1 59 56 false (.fldA 0) 1,P1 60 56 false (.load none) 59,P2 61 56 false (.bin .neq) 58 60,PT 62 56
 61]).seq (C.cond (.t 62) ((C.ops [MC 2 (i6 11)]).seq C.ret) C.skip)) ((C.ops [MV 64 4,MV 63 64]).seq (C.cond (.t 63) ((C.ops [O1 65 (.fldA 0) 1,LD 66 65,O1 67 .slen 66,BC 68
 .neq 67 (i6 1),MV 69 68,P1 70 69 false (.fldA 0) 1,P1 71 69 false (.load none) 70,PC 72 69 false .sidx 71 (i6 0),P1 73 69 false (.call 257 true) 72,PC 74 69 false (.bin .neq)
 73 (i6 5),MG 75 69 false 74,P1 76 75 true (.fldA 0) 1,P1 77 75 true (.load none) 76,PC 78 75 true .sidx 77 (i6 0),P1 79 75 true (.call 257 true) 78,PC 80 75 true (.bin .neq)
 79 (i6 4),QF 81 69 false 75 80,PT 82 69 81,MV 83 82,P1 84 83 false (.fldA 1) 1,P1 85 83 false (.load none) 84,P1 86 83 false (.fldA 0) 1,P1 87 83 false (.load none) 86,P2
 88 83 false (.bin .neq) 85 87,PT 89 83 88]).seq (C.cond (.t 89) ((C.ops [MC 2 (i6 11)]).seq C.ret) C.skip)) (((C.ops [O1 22 (.fldA 0) 1,LD 23 22,O1 24 (.call 216 true) 23,O1 25
 (.un UnOp.not) 24,MV 26 25,P1 27 26 false (.fldA 1) 1,P1 28 26 false (.load none) 27,PC 29 26 false (.bin .eql) 28 (.str []),PT 30 26 29,MV 31 30,P1 32 31 false (.fldA 1) 1,
 P1 33 31 false (.load none) 32,P1 34 31 false .slen 33,PC 35 31 false (.bin .gtr) 34 (i6 64),PT 36 31 35]).seq (C.cond (.t 36) ((C.ops [MC 2 (i6 11)]).seq C.ret) C.skip)).seq
 ((C.ops [MC 5 (i6 0)]).seq (C.block 1 (((C.ops [MV 37 5,O1 38 (.fldA 1) 1,LD 39 38,O1 40 .slen 39,BI 41 .lss 37 40]).seq (C.cond (.t 41) C.skip (C.exit 1))).seq ((C.block 2
 ((C.ops [O1 44 (.fldA 1) 1,LD 45 44,MV 46 5,O2 47 .sidx 45 46,O1 48 (.call 258 true) 47,O1 49 (.un UnOp.not) 48]).seq (C.cond (.t 49) ((C.ops [MC 2 (i6 11)]).seq C.ret)
 C.skip))).seq (C.ops [MV 42 5,BC 43 .add 42 (i6 1),MV 5 43]))).loop)))))))).seq (((C.ops [O1 90 (.fldA 2) 1,O1 91 (.fldA 1) 90,LD 92 91,BC 93 .lss 92 (i6 0)]).seq (C.cond (.t
 93) ((C.ops [MC 2 (i6 2)]).seq C.ret) C.skip)).seq (((C.ops [O1 94 (.fldA 2) 1,O1 95 (.fldA 0) 94,LD 96 95,O1 97 (.call 259 true) 96,O1 98 (.un UnOp.not) 97,MV 99 98,P1 100
 99 false (.fldA 5) 1,P1 101 99 false (.load none) 100,P1 102 99 false (.call 259 true) 101,P1 103 99 false (.un UnOp.not) 102,PT 104 99 103]).seq (C.cond (.t 104) ((C.ops [MC 2
 (i6 14)]).seq C.ret) C.skip)).seq ((C.ops [MC 2 (i6 0)]).seq
 C.ret))))))))
theorem zj:qH Tryz.prog 211 105 1 [RV.tmp 2] jk:=fi Tryz.f211 [1] jE []
def qtU:C:=
 ((C.ops [O1 2 (.box 0 124) 0,MC 4 (.bool false)]).seq ((C.ops [O1 5 (.fldA 4) 2,LD 6 5,MV 7 1,BI 8 .quo 6 7,BC 9 .rem 8 (i6 2),BC 10 .eql 9 (i6 1),MV 4 10]).seq
 C.ret))
theorem qvi:qH Tryz.prog 255 11 1 [RV.tmp 4] qtU:=fi Tryz.f255 [2] jE []
def qtV:C:=
 ((C.ops [MC 2 (.bool false)]).seq (((C.ops [MC 3 (i6 1)]).seq (C.block 0 (((C.ops [MV 4 3,BC 5 .leq 4 (i6 64)]).seq (C.cond (.t 5) C.skip (C.exit 0))).seq ((C.block 1 ((C.ops [MV
 8 0,MV 9 3,O1 10 (.call 86 true) 9,ON 11 (.bin .add) [.c (.str [91]),.t 10],BC 12 .add 11 (.str [93]),BI 13 .eql 8 12]).seq (C.cond (.t 13) ((C.ops [MC 2 (.bool true)]).seq
 C.ret) C.skip))).seq (C.ops [MV 6 3,BC 7 .add 6 (i6 1),MV 3 7]))).loop)).seq ((C.ops [MC 2 (.bool false)]).seq
 C.ret)))
theorem qvj:qH Tryz.prog 256 14 0 [RV.tmp 2] qtV:=fi Tryz.f256 [] jE []
def qi2:C:=
 ((C.ops [MC 2 (.bool false)]).seq ((C.ops [MV 4 0,O1 5 (.call 257 true) 4,MV 3 5]).seq ((C.ops [MV 6 3,BC 7 .eql 6 (i6 1),MV 8 7,MG 9 8 false 3,PC 10 8 false (.bin .eql) 9
 (i6 2),PT 11 8 10,MV 12 11,MG 13 12 false 3,PC 14 12 false (.bin .eql) 13 (i6 3),PT 15 12 14,MV 16 15,MG 17 16 false 3,PC 18 16 false (.bin .eql) 17 (i6 4),PT 19 16 18,MV
 2 19]).seq
 C.ret)))
theorem qfP:qH Tryz.prog 258 20 0 [RV.tmp 2] qi2:=fi Tryz.f258 [] jE []
def qqn:C:=
 ((C.ops [MC 2 (.bool false)]).seq ((C.ops [MV 3 0,BC 4 .eql 3 (.str []),MV 5 4,MG 6 5 false 0,P1 7 5 false (.call 166 true) 6,PT 8 5 7,MV 2 8]).seq
 C.ret))
theorem qpm:qH Tryz.prog 259 9 0 [RV.tmp 2] qqn:=fi Tryz.f259 [] jE []
end
section
open Go Go.Proofs AF HY LN
namespace RC
abbrev Str:=List UInt8
def qr(L:List Int):AV:= .sl L.length fun i=> [.int .i64 (L.getD i 0)]
def qfb(s:Str):Bool:=decide (1≤s.length)&&decide (s.drop (s.length-1)= [42])
def qop(s:Str):Bool:=if qfb s=true then j8 (s.take (s.length-1))&&decide (s.length≤16) else j8 s
theorem qrT:((1:Nat):Int)=1:=rfl
theorem qpy(s:Str)(h:List AObj)(hs:s.length≤1000000000):ACalls Tryz.prog 304 [.str s,.str [42]] h (.bool (qfb s)) h:=by
 unfold qfb
 by_cases g:1≤s.length
 ·have k1:((1:Int)≤s.length)=True:=eqt om;have k2:((s.length:Int)-1).toNat=s.length-1:=by omega
  have k3:(0≤(s.length:Int)-1)=True:=eqt om;have k4:((s.length:Int)-1≤s.length)=True:=eqt om;have k5:List.take (s.length-(s.length-1)) (List.drop (s.length-1) s)=s.drop (s.length-1):=ltl (by simp);rw[dqt g];refine acO qpt ?_;simp (disch:=omega) only[qqu,qrT,k1,k2,k3,k4,k5,go_sem]
  repeat' first
   |(apply qh;exact rvk;simp only[go_sem];exact qi)
   |with_reducible apply aiA
  all_goals try exact clz
 ·have k1:((1:Int)≤s.length)=False:=eqf om;rw[dqf g];refine acO qpt ?_;simp (disch:=omega) only[qqu,qrT,k1,go_sem]
  repeat' first
   |(apply qh;exact rvk;simp only[go_sem];exact qi)
theorem qqT(s:Str)(h:List AObj)(hs:s.length≤1000000000):ACalls Tryz.prog 284 [.str s,.str [42]] h (.tup [.str (if qfb s=true then s.take (s.length-1) else s),.bool (qfb s)]) h:=by
 have c1:=fun h=>qpy s h hs
 cases g:qfb s with
 |true=>
  rw[g]at c1;have g1:1≤s.length:=by unfold qfb at g;simp at g;omega
  have k2:((s.length:Int)-1).toNat=s.length-1:=by omega
  have k3:(0≤(s.length:Int)-1)=True:=eqt om;have k4:((s.length:Int)-1≤s.length)=True:=eqt om;refine acO qpq ?_;simp (disch:=omega) only[qqr,go_sem]
  repeat' first
   |(refine cA (c1 _) flk ?_;simp (disch:=omega) only[qrT,k2,k3,k4,Nat.sub_zero,go_sem])
   |(apply qh;exact rvk;simp only[go_sem];exact qi)
   |with_reducible apply aiA
  all_goals try exact clz
 |false=>
  rw[g]at c1;refine acO qpq ?_;simp (disch:=omega) only[qqr,go_sem]
  repeat' first
   |(refine cA (c1 _) flk ?_;simp (disch:=omega) only[go_sem])
   |(apply qh;exact rvk;simp only[go_sem];exact qi)
theorem qur(s:Str)(h:List AObj)(hs:s.length≤1000000000):ACalls Tryz.prog 241 [.str s,.str [42]] h (.tup [.str (if qfb s=true then s.take (s.length-1) else s),.bool (qfb s)]) h:=by
 have c1:=fun h=>qqT s h hs
 refine acO qvb ?_;simp (disch:=omega) only[qtP,go_sem]
 repeat' first
  |(refine cA (c1 _) flk ?_;simp (disch:=omega) only[go_sem])
  |(apply qh;exact rvk;simp only[go_sem];exact qi)
  |with_reducible apply aiA
 all_goals try exact clz
theorem qoz(s:Str)(h:1≤s.length):qfb s=decide (((s[s.length-1]?).getD 0).toNat=42):=by
 unfold qfb;rw[dqt h,Bool.true_and];have e:s.drop (s.length-1)= [(s[s.length-1]?).getD 0]:=by
  rw[List.drop_eq_getElem_cons (show s.length-1<s.length by omega),zY (show s.length-1<s.length by omega),List.drop_eq_nil_of_le om];rfl
 rw[e];congr 1;simp only[List.cons.injEq,and_true,eq_iff_iff];exact⟨fun h=>by rw[h];rfl,fun h=>UInt8.toNat_inj.1 (by rw[h];rfl)⟩
def qaU(f:Nat→Int):Nat→Nat→Int
 |_,0=>0
 |i,k+1=>if f i≠0 then f i else qaU f (i+1) k
theorem qdK{f:Nat→Int}{n i:Nat}(hi:i≤n)(h: ∀j,j<i→f j=0):qaU f 0 n=qaU f i (n-i):=by
 induction i with
 |zero=>rfl
 |succ i ih=>
  rw[ih om (fun j hj=>h j om),show n-i=(n-(i+1))+1 by omega];simp only[qaU,h i om,ne_eq,not_true_eq_false,if_false]
theorem jy{f:Nat→Int}{n i:Nat}(hi:i<n)(h: ∀j,j<i→f j=0)(hp:f i≠0):qaU f 0 n=f i:=by
 rw[qdK om h,show n-i=(n-i-1)+1 by omega];simp only[qaU];rw[ipo hp]
theorem zI{f:Nat→Int}{n:Nat}(h: ∀j,j<n→f j=0):qaU f 0 n=0:=by
 rw[qdK (nlr n) h,Nat.sub_self];rfl
theorem jU{f:Nat→Int}{n:Nat}:qaU f 0 n=0↔ ∀j,j<n→f j=0:=by
 refine⟨fun h=> ?_,zI⟩;intro j
 induction j using Nat.strongRecOn with
 |_ j ih=>
  intro hj
  by_cases e:f j=0
  ·exact e
  ·rw[jy hj (fun k hk=>ih k hk om) e]at h;exact absurd h e
def qsh(b:Int)(l:List Int)(i:Nat):Int:=if l.getD i 0<0∨b≤l.getD i 0 then 2 else if 0<i∧l.getD i 0≤l.getD (i-1) 0 then 10 else 0
def qxF(b:Int)(l:List Int):Int:=qaU (qsh b l) 0 l.length
structure Gr where
 name:Str
 mem:List Int
 deriving Inhabited
def grC(g:Gr):List AV:= [.str g.name,qr g.mem]
def qmf(gs:List Gr):AV:= .sl gs.length fun i=>grC (gs.getD i default)
def jl(names:List Str)(i:Nat):Int:=if qop (names.getD i [])=false then 14 else if zE (fun j=>decide (names.getD i []=names.getD j [])) i=true then 7 else 0
def qrp(names:List Str)(gs:List Gr)(i:Nat):Int:=
 if j8 (gs.getD i default).name=false then 14 else if zE (fun j=>decide ((gs.getD i default).name=names.getD j [])) names.length=true then 7 else
  if zE (fun j=>decide ((gs.getD i default).name=(gs.getD j default).name)) i=true then 7 else if (gs.getD i default).mem.length=0 then 5 else qxF names.length (gs.getD i default).mem
def sgE(names:List Str)(gs:List Gr):Int:=
 if 32<names.length then 4 else if qaU (jl names) 0 names.length≠0 then qaU (jl names) 0 names.length else if 16<gs.length then 4 else qaU (qrp names gs) 0 gs.length
theorem qyx(n:Nat)(g:Nat→Str)(x:Str)(h:List AObj)(hn:n≤1000000000):ACalls Tryz.prog 117 [.sl n (fun j=> [.str (g j)]),.str x] h (.int .i64 (qbi (fun j=>decide (x=g j)) n 0)) h:=by
 have:=qv0 quL n (fun j=> .s (g j)) (.s x) h (fun _ _=>rfl) om
 simpa only[At.v,At.s.injEq] using this
theorem qx4(n:Nat)(g:Nat→Str)(x:Str)(h:List AObj)(hn:n≤1000000000):ACalls Tryz.prog 43 [.sl n (fun j=> [.str (g j)]),.str x] h (.bool (zE (fun j=>decide (x=g j)) n)) h:=
 qs0 qyf ⟨rfl,rfl⟩ ⟨rfl,rfl⟩ (qyx n g x h hn)
end RC
end
section
namespace AF
open Go
theorem Wk.kill{t:List AV}{h:List AObj}{k v:Nat}{ty:TypeId}{cs:List AV}(hk:getO k h=some (.mem v ty cs)):Wk t h t (setO k h (.emp (v+1))):=by
 intro N w σ a H;have hkl:k<σ.length:=by rw[H.hr.len];exact zp hk
 have ho:=zY hkl;obtain⟨m1,_⟩:=H.hr.obj k _ _ hk ho;obtain⟨g1,g2⟩:=H.hr.kill ho;rw[m1]at g1 g2;exact⟨_,⟨g1,H.sz,fun i c x hc hx=>(H.tm i c x hc hx).ext g2,qan g2 H.df⟩,g2⟩
end AF
end
section
open Go Go.Proofs AF HY LN
namespace RC
theorem qgq{p q:Nat→Bool}{n:Nat}(h: ∀i,i<n→p i=q i):zE p n=zE q n:=by
 cases e:zE q n with
 |true=>obtain⟨i,h1,h2⟩:=qv.1 e;exact qv.2 ⟨i,h1,by rw[h i h1,h2]⟩
 |false=>exact qk.2 fun i hi=>by rw[h i hi];exact qk.1 e i hi
def qyD(l:List Int):Nat:=l.foldl (fun a n=>a|||2^n.toNat) 0
def inB(b:Int)(l:List Int):Prop:= ∀i,i<l.length→0≤l.getD i 0∧l.getD i 0<b
theorem qpB(l:List Int): ∀a:Nat,a<2^64→(∀n∈l,0≤n∧n<64)→l.foldl (fun a n=>a|||2^n.toNat) a<2^64∧ ∀i,(l.foldl (fun a n=>a|||2^n.toNat) a).testBit i=(a.testBit i||decide ((i:Int)∈l)):=by
 induction l with
 |nil=>intro a ha _;exact⟨ha,fun i=>by simp⟩
 |cons n l ih=>
  intro a ha hl;have hn:=hl n (by simp);obtain⟨h1,h2⟩:=ih (a|||2^n.toNat) (Nat.or_lt_two_pow ha (Nat.pow_lt_pow_right om om)) (fun m hm=>hl m (by simp[hm]));refine⟨h1,fun i=> ?_⟩;rw[List.foldl_cons,h2 i,Nat.testBit_or,Nat.testBit_two_pow]
  by_cases e:(i:Int)=n
  ·have e':n.toNat=i:=by omega
   simp[e,e']
  ·have e': ¬n.toNat=i:=by omega
   simp[e,e']
theorem qbB{l:List Int}{b:Int}(h:inB b l): ∀n∈l,0≤n∧n<b:=by
 intro n hn;obtain⟨i,hi,e⟩:=List.getElem_of_mem hn
 have:=h i hi
 rw[gdqA,zY hi]at this;rw[←e];exact this
theorem qv7{l:List Int}(h:inB 64 l):qyD l<2^64:=(qpB l 0 (by decide) (qbB h)).1
theorem qrI{l:List Int}(h:inB 64 l)(i:Nat):(qyD l).testBit i=decide ((i:Int)∈l):=by
 have:=(qpB l 0 (by decide) (qbB h)).2 i
 rw[Nat.zero_testBit,Bool.false_or]at this;exact this
def qat(p:Nat→Bool)(k:Nat):List Int:=((List.range k).filter p).map Int.ofNat
theorem qkf(p:Nat→Bool)(k:Nat):qat p (k+1)=qat p k++if p k=true then [(k:Int)] else []:=by
 unfold qat;rw[List.range_succ,List.filter_append,List.map_append];congr 1;rw[List.filter_cons];split<;>rfl
theorem qfW(p:Nat→Bool)(k:Nat):(qat p k).length≤k:=by
 unfold qat;rw[List.length_map];exact Nat.le_trans (List.length_filter_le _ _) (by simp)
def qF(L:List Int):List AV:=L.map fun n=> .int .i64 n
theorem qL(L:List Int):(qF L).length=L.length:=by simp[qF]
theorem jZ(L M:List Int):qF (L++M)=qF L++qF M:=by simp[qF]
theorem qdT{L:List Int}:qF L= []↔L= []:=by simp[qF]
theorem j0{L:List Int}{n:Nat}(g:AV→AV)(hg: ∀n,g (.int .i64 n)= .int .i64 n)(hn:n=L.length):VLe (.sl n fun i=>(((qF L).drop i).take 1).map g) (qr L):=by
 subst hn;refine VLe.sl_eq rfl (fun i hi=> ?_);unfold qF;rw[←List.map_drop,List.drop_eq_getElem_cons hi,List.map_cons,List.take_succ_cons,List.take_zero,List.map_cons,List.map_nil,hg,gdqA,zY hi];rfl
theorem qgR(L:List Int):(qr L).flag=true:=rfl
theorem qfd(L:List Int):(qr L).strip=qr L:=rfl
theorem qjV{fz:Nat→Bool}{h:List AObj}{n:Nat}(L:List Int):frz fz h (n+1) (qr L)=qr L:=rfl
theorem qk1{fz:Nat→Bool}{h:List AObj}{n:Nat}(L:List Int):rei fz h (n+1) (qr L)=qr L:=rfl
theorem qjN(L:List Str):(strs L).flag=true:=rfl
theorem qhJ(L:List Str):(strs L).strip=strs L:=rfl
theorem qnr{fz:Nat→Bool}{h:List AObj}{n:Nat}(L:List Str):frz fz h (n+1) (strs L)=strs L:=rfl
theorem qoe{fz:Nat→Bool}{h:List AObj}{n:Nat}(L:List Str):rei fz h (n+1) (strs L)=strs L:=rfl
theorem qjL(L:List Gr):(qmf L).flag=true:=rfl
theorem qhH(L:List Gr):(qmf L).strip=qmf L:=rfl
theorem qnp{fz:Nat→Bool}{h:List AObj}{n:Nat}(L:List Gr):frz fz h (n+1) (qmf L)=qmf L:=rfl
theorem qod{fz:Nat→Bool}{h:List AObj}{n:Nat}(L:List Gr):rei fz h (n+1) (qmf L)=qmf L:=rfl
attribute [go_sem] qgR qfd qjV qk1 qjN qhJ qnr qoe qjL qhH qnp qod
def nIx(names:List Str)(s:Str):Int:=qbi (fun j=>decide (s=names.getD j [])) names.length 0
def gIx(gs:List Gr)(s:Str):Int:=qbi (fun j=>decide (s=(gs.getD j default).name)) gs.length 0
def qoo(names:List Str)(gs:List Gr)(sg:List Str)(i:Nat):Int:=
 if nIx names (sg.getD i [])<0∧gIx gs (sg.getD i [])<0 then 6 else if zE (fun j=>decide (sg.getD i []=sg.getD j [])) i=true then 7 else 0
def els(names:List Str)(gs:List Gr)(s:Str):List Int:=if 0≤nIx names s then [nIx names s] else (gs.getD (gIx gs s).toNat default).mem
def qoZ(names:List Str)(gs:List Gr)(sg:List Str):Nat→Nat
 |0=>0
 |i+1=>qoZ names gs sg i|||qyD (els names gs (sg.getD i []))
def qgN(names:List Str)(gs:List Gr)(sg:List Str):Int:=if sgE names gs≠0 then 1 else qaU (qoo names gs sg) 0 sg.length
def qb9(names:List Str)(gs:List Gr)(sg:List Str):List Int:=if qgN names gs sg=0 then qat (qoZ names gs sg sg.length).testBit 64 else []
theorem qsi{b:Int}{l:List Int}(h:qxF b l=0):inB b l∧ ∀i,0<i→i<l.length→l.getD (i-1) 0<l.getD i 0:=by
 unfold qxF at h;rw[jU]at h;refine⟨fun i hi=> ?_,fun i h0 hi=> ?_⟩
 ·have:=h i hi
  unfold qsh at this;split at this
  ·cases this
  ·rename_i hc;omega
 ·have:=h i hi
  unfold qsh at this;split at this
  ·cases this
  ·split at this
   ·cases this
   ·rename_i hc;omega
structure qxA (names:List Str) (gs:List Gr):Prop where
 n32:names.length≤32
 g16:gs.length≤16
 na: ∀i,i<names.length→jl names i=0
 gr: ∀i,i<gs.length→qrp names gs i=0
theorem qpK{names:List Str}{gs:List Gr}(h:sgE names gs=0):qxA names gs:=by
 unfold sgE at h;split at h
 ·cases h
 split at h
 ·rename_i h1;exact absurd h h1
 split at h
 ·cases h
 rename_i h1 h2 h3;exact⟨om,om,jU.1 (by simpa using h2),jU.1 h⟩
theorem qrq{names:List Str}{gs:List Gr}(h:qxA names gs){i:Nat}(hi:i<gs.length):qxF names.length (gs.getD i default).mem=0:=by
 have:=h.gr i hi
 unfold qrp at this
 repeat' split at this
 all_goals first|(cases this;done)|exact this
theorem qki(names:List Str)(s:Str):(∃k:Nat,k<names.length∧names.getD k []=s∧nIx names s=k)∨((∀j,j<names.length→s≠names.getD j [])∧nIx names s= -1):=by
 rcases zm (fun j=>decide (s=names.getD j [])) names.length with⟨i,h1,h2,_,h4⟩|⟨h1,h2⟩
 ·exact .inl ⟨i,h1,(of_decide_eq_true h2).symm,h4⟩
 ·exact .inr ⟨fun j hj=>of_decide_eq_false (h1 j hj),h2⟩
theorem qjX(gs:List Gr)(s:Str):(∃k:Nat,k<gs.length∧(gs.getD k default).name=s∧gIx gs s=k)∨((∀j,j<gs.length→s≠(gs.getD j default).name)∧gIx gs s= -1):=by
 rcases zm (fun j=>decide (s=(gs.getD j default).name)) gs.length with⟨i,h1,h2,_,h4⟩|⟨h1,h2⟩
 ·exact .inl ⟨i,h1,(of_decide_eq_true h2).symm,h4⟩
 ·exact .inr ⟨fun j hj=>of_decide_eq_false (h1 j hj),h2⟩
theorem qjA{names:List Str}{gs:List Gr}{s:Str}(h:qxA names gs)(hf: ¬(nIx names s<0∧gIx gs s<0)):inB names.length (els names gs s):=by
 unfold els;rcases qki names s with⟨k,h1,_,h3⟩|⟨_,h3⟩
 ·rw[h3,ipo om];intro i hi
  have:i=0:=by simpa using hi
  subst this;simp only[List.getD_cons_zero];omega
 ·rw[h3,ine om];rcases qjX gs s with⟨k,g1,_,g3⟩|⟨_,g3⟩
  ·rw[g3,itn];exact (qsi (qrq h g1)).1
  ·exact absurd ⟨om,om⟩ hf
theorem qfR{b c:Int}{l:List Int}(h:inB b l)(hbc:b≤c):inB c l:=fun i hi=>⟨(h i hi).1,by have:=(h i hi).2;omega⟩
theorem qpZ{names:List Str}{gs:List Gr}{sg:List Str}(h:qxA names gs): ∀ {i:Nat},(∀j,j<i→qoo names gs sg j=0)→qoZ names gs sg i<2^64∧ ∀k,(qoZ names gs sg i).testBit k=decide (∃j,j<i∧(k:Int)∈els names gs (sg.getD j [])):=by
 intro i
 induction i with
 |zero=>intro _;exact⟨Nat.two_pow_pos 64,fun k=>by simp[qoZ]⟩
 |succ i ih=>
  intro hz;obtain⟨h1,h2⟩:=ih (fun j hj=>hz j om);have h3: ¬(nIx names (sg.getD i [])<0∧gIx gs (sg.getD i [])<0):=by
   intro hc
   have:=hz i om
   unfold qoo at this;rw[ipo hc]at this;cases this
  have h4:inB 64 (els names gs (sg.getD i [])):=qfR (qjA h h3) (by have:=h.n32;omega);refine⟨Nat.or_lt_two_pow h1 (qv7 h4),fun k=> ?_⟩;unfold qoZ;rw[Nat.testBit_or,h2 k,qrI h4 k,←Bool.decide_or];refine decide_eq_decide.2 ⟨?_,?_⟩
  ·rintro (⟨j,hj,hm⟩|hm)
   ·exact⟨j,om,hm⟩
   ·exact⟨i,om,hm⟩
  ·rintro⟨j,hj,hm⟩
   by_cases e:j=i
   ·subst e;exact .inr hm
   ·exact .inl ⟨j,om,hm⟩
end RC
end
section
open Go Go.Proofs AF HY
namespace LN
def qoV (w : World) : Prop := Lib.TabIs Tryz.prog w "internal/strconv.uint64pow10" .u64 Lib.pow10Tab
def qta (w : World) : Prop := (∃ tp p, w.var? Tryz.prog "strconv.ErrSyntax" = some #[.iface tp p]) ∧ ∃ tp p, w.var? Tryz.prog "strconv.ErrRange" = some #[.iface tp p]
def kh(Q:World→Prop)(h:List AObj):Prop:= ∃(k:Nat) (bs:List Nat) (G:World→Prop),h[k]? =some (.pin bs G)∧ ∀w,G w→Q w
theorem kh.app{Q:World→Prop}{h:List AObj}(hp:kh Q h)(l:List AObj):kh Q (h++l):=by
 obtain⟨k,bs,G,h1,h2⟩:=hp;exact⟨k,bs,G,by rw[List.getElem?_append_left (lgs.1 h1).1];exact h1,h2⟩
theorem kh.mono{Q Q':World→Prop}{h:List AObj}(hp:kh Q h)(hq: ∀w,Q w→Q' w):kh Q' h:=by
 obtain⟨k,bs,G,h1,h2⟩:=hp;exact⟨k,bs,G,h1,fun w hw=>hq w (h2 w hw)⟩
theorem kh.of{Q:World→Prop}{h:List AObj}{w:World}{σ:List OB}(hp:kh Q h)(H:HR w σ h):Q w:=by
 obtain⟨k,bs,G,h1,h2⟩:=hp;exact h2 w (qwg H h1)
theorem t48(n:Int)(h:List AObj)(hp:kh qoV h)(h0: -9223372036854775808≤n)(h1:n≤9223372036854775807):ACalls Tryz.prog 86 [.int .i64 n] h (.str (Lib.itoa n)) h:=by
 refine⟨qpE Tryz.func86 (by kernel_rfl) (by kernel_rfl),fun w σ xs H hv=> ?_⟩;obtain⟨x,rfl,hx⟩:=hv.one;rw[qU hx];refine (callsIn_wide.2 (Any.strconv_Itoa Tryz.laysM171 n h0 h1 w (hp.of H))).mono ?_;rintro e w' ⟨rfl,k,os,rfl⟩;obtain⟨g1,g2⟩:=Ext.ofBelow H (Lib.below_grow w.heap.size w (nlr _) k os);exact⟨_,σ,rfl,g1,.imm .str,g2⟩
def qtn(s:List UInt8):Int:=
 match Lib.atoiAll s with
 | .ok _=>0
 | .range=>Lib.atoiSat s
 |_=>0
def qp3(s:List UInt8):AV:=
 match Lib.atoiAll s with
 | .ok v=> .tup [.int .i64 v,.nilif]
 |_=> .tup [.int .i64 (qtn s),.ifc]
theorem t50(s:List UInt8)(h:List AObj)(hp:kh qta h)(hl:s.length≤281474976710656):ACalls Tryz.prog 291 [.str s] h (qp3 s) h:=by
 refine⟨qpE Tryz.func291 (by kernel_rfl) (by kernel_rfl),fun w σ xs H hv=> ?_⟩;obtain⟨x,rfl,hx⟩:=hv.one;rw[zX hx];have hsz:(⟨s.toArray⟩:ByteArray).size≤281474976710656:=by simpa[ByteArray.size] using hl
 obtain⟨⟨t1,p1,e1⟩,t2,p2,e2⟩:=hp.of H;unfold qp3 qtn;have hd:(⟨s.toArray⟩:ByteArray).data.toList=s:=rfl;cases hs:Lib.atoiAll s
 ·rename_i v;refine (callsIn_wide.2 (Any.strconv_Atoi_ok Tryz.laysC172 ⟨s.toArray⟩ om v (by rw[hd];exact hs) w)).mono ?_;rintro e w' ⟨rfl,hw⟩;have hb:Go.RowKit.Below w.heap.size w w':=by
   rcases hw with rfl|⟨t,rfl⟩
   ·exact Go.RowKit.Below.refl _ _
   ·exact Lib.bytesWorld_below _ _ _
  obtain⟨g1,g2⟩:=Ext.ofBelow H hb;refine⟨_,σ,rfl,g1,.imm (.tup rfl (fun i c y hc hy=> ?_)),g2⟩
  match i with
  |0=>simp at hc hy;subst hc hy;exact .int
  |1=>simp at hc hy;subst hc hy;exact .nilif
  |i+2=>simp at hc
 ·refine (callsIn_wide.2 (Any.strconv_Atoi_syntax_var Tryz.laysC172 ⟨s.toArray⟩ hsz (by rw[hd];exact hs) t1 p1 w e1)).mono ?_;rintro e w' ⟨N,rfl,_,_,hb⟩;obtain⟨g1,g2⟩:=Ext.ofBelow H hb;refine⟨_,σ,rfl,g1,.imm (.tup rfl (fun i c y hc hy=> ?_)),g2⟩
  match i with
  |0=>simp at hc hy;subst hc hy;exact .int
  |1=>simp at hc hy;subst hc hy;exact .ifc
  |i+2=>simp at hc
 ·refine (callsIn_wide.2 (Any.strconv_Atoi_range_var Tryz.laysC172 ⟨s.toArray⟩ hsz (by rw[hd];exact hs) t2 p2 w e2)).mono ?_;rintro e w' ⟨N,rfl,_,_,hb⟩;obtain⟨g1,g2⟩:=Ext.ofBelow H hb;refine⟨_,σ,rfl,g1,.imm (.tup rfl (fun i c y hc hy=> ?_)),g2⟩
  match i with
  |0=>simp at hc hy;subst hc hy;exact .int
  |1=>simp at hc hy;subst hc hy;exact .ifc
  |i+2=>simp at hc
theorem qkC: ∀(l r:List UInt8) (acc:Nat),Lib.parseUint10 acc (l++r)=match Lib.parseUint10 acc l with
  | .ok v=>Lib.parseUint10 v r
  |e=>e:=by
 intro l
 induction l with
 |nil=>intro r acc;rfl
 |cons c l ih=>
  intro r acc;rw[lca,Lib.parseUint10,Lib.parseUint10]
  by_cases h1:48≤c.toNat∧c.toNat≤57
  ·rw[ipo h1,ipo h1]
   by_cases h2:1844674407370955162≤acc
   ·rw[ipo h2,ipo h2]
   ·rw[ine h2,ine h2]
    by_cases h3:18446744073709551616≤acc*10+(c.toNat-48)
    ·rw[ipo h3,ipo h3]
    ·rw[ine h3,ine h3];exact ih r _
  ·rw[ine h1,ine h1]
theorem qcV{d:Nat}(h:d<10):(UInt8.ofNat (48+d)).toNat=48+d:=by
 rw[UInt8.toNat_ofNat'];omega
theorem qkD: ∀u,u<1000000000→Lib.parseUint10 0 (Lib.decDigits u)= .ok u:=by
 intro u
 induction u using Nat.strongRecOn with
 |_ u ih=>
  intro hu
  by_cases h:u<10
  ·rw[Lib.decDigits,dif_pos h,Lib.parseUint10,qcV h,ipo om,ine om,ine om,Lib.parseUint10];congr 1;omega
  ·rw[Lib.decDigits,dif_neg h,qkC,ih (u/10) om om];simp only;rw[Lib.parseUint10,qcV om,ipo om,ine om,ine om,Lib.parseUint10];congr 1;omega
theorem qgJ: ∀u,∀c∈Lib.decDigits u,48≤c.toNat∧c.toNat≤57:=by
 intro u
 induction u using Nat.strongRecOn with
 |_ u ih=>
  intro c hc
  by_cases h:u<10
  ·rw[Lib.decDigits,dif_pos h,List.mem_singleton]at hc;subst hc;rw[qcV h];omega
  ·rw[Lib.decDigits,dif_neg h]at hc;rcases List.mem_append.1 hc with hc|hc
   ·exact ih (u/10) om c hc
   ·rw[List.mem_singleton]at hc;subst hc;rw[qcV om];omega
theorem qut(u:Nat):Lib.decDigits u≠ []:=by
 intro h
 have:=Lib.decDigits_length u
 have:=Lib.nDigits_pos u
 rw[h]at*;simp at*;omega
theorem qh7{n:Int}(h0:0≤n)(h1:n<1000000000):Lib.atoiAll (Lib.itoa n)= .ok n:=by
 obtain⟨u,rfl⟩: ∃u:Nat,n=u:=⟨n.toNat,om⟩
 rw[Lib.itoa_nonneg];have hd:=qgJ u;have hp:=qkD u om;have hne:=qut u;cases hl:Lib.decDigits u with
 |nil=>exact absurd hl hne
 |cons c r=>
  rw[hl]at hd hp;have hc:=hd c (List.mem_cons_self ..);unfold Lib.atoiAll;simp only;rw[ine (show¬(c.toNat=43∨c.toNat=45) by omega)];unfold Lib.parseMag;rw[ine (by simp),hp];simp only;rw[ine om,ine om,ine om]
end LN
end
section
open Go Go.Proofs AF HY LN
namespace RC
theorem qms{s:Str}{v:Int}(h:Lib.atoiAll s= .ok v): -9223372036854775808≤v∧v≤9223372036854775807:=by
 unfold Lib.atoiAll at h;split at h
 ·cases h
 ·simp only at h;split at h
  ·cases h
  ·cases h
  ·split at h
   ·cases h
   ·split at h
    ·cases h
    ·rename_i h1 h2;cases h;split
     ·rename_i h3;have:=mt (And.intro h3) h2;omega
     ·rename_i h3;have:=mt (And.intro h3) h1;omega
theorem qeR{k:Nat}(h:k≤64):(Lib.itoa (k:Int)).length≤9:=by
 rw[Lib.itoa_nonneg]
 by_cases g:k<10
 ·rw[Lib.decDigits,dif_pos g];simp
 ·rw[Lib.decDigits,dif_neg g,Lib.decDigits,dif_pos (show k/10<10 by omega)];simp
def SG(w:World):Prop:=qoV w∧qta w
theorem SG.pow{h:List AObj}(hp:kh SG h):kh qoV h:=hp.mono fun _ h=>h.1
theorem SG.err{h:List AObj}(hp:kh SG h):kh qta h:=hp.mono fun _ h=>h.2
def pre(s:Str):Bool:=decide (1≤s.length)&&decide (s.take 1= [91])
def qer(s:Str):Bool:=(List.range 64).any fun k=>decide (s=91::(Lib.itoa ((k+1:Nat):Int)++ [93]))
def qzd(s:Str):Bool:=kS s||(if s.length=1 then decide (kind (ch s 0)=5)||decide (kind (ch s 0)=4) else qer s)
def wE(s:Str):Int:=if qzd s=true then 0 else 11
def qmd(L:List Str):Int:=qaU (fun i=>wE (L.getD i [])) 0 L.length
theorem qzu(a b c:Str)(n f g:Int)(d:Str)(h:List AObj)(hf:0≤f)(hf2:f≤31)(hg:0<g):ACalls Tryz.prog 255 [.agg [.str a,.str b,.str c,.int .i64 n,.int .i64 f,.str d],.int .i64 g] h (.bool (decide (f/g%2=1))) h:=by
 have k1:(g=0)=False:=eqf om;have k2:0≤f/g:=Int.ediv_nonneg hf om;have k3:f/g≤f:=Int.ediv_le_self _ hf;refine acO qvi ?_;simp (disch:=omega) only[qtU,go_sem]
 repeat' first
  |(apply qb;exact rvk;simp only[go_sem];exact qi)
  |with_reducible apply aiA
 all_goals try exact clz
theorem qz3(s:Str)(h:List AObj)(hs:s.length≤1000000000)(hp:kh SG h):ACalls Tryz.prog 256 [.str s] h (.bool (qer s)) h:=by
 refine acO qvj ?_;simp (disch:=omega) only[qtV,go_sem];refine qn (T:=fun i:Nat=>qP 14 [(0,.str s),(3,.int .i64 ((i+1:Nat):Int))]) (H:=fun _=>h) (inv:=fun i=>i≤64∧ ∀j,j<i→s≠91::(Lib.itoa ((j+1:Nat):Int)++ [93])) (m:=fun i=>64-i) 0 ⟨nzl _,fun j hj=>absurd hj (nnz j)⟩ (Wk.temps ?_) ?_
 ·(simp only[go_sem,qf,qc,qa,qe];try (repeat' first|(with_reducible apply aiA)|(apply qg;omega)|(apply qd;rfl)|exact qi))
 rintro i ⟨i1,i2⟩ K hK;have ec:((i+1:Nat):Int)=(i:Int)+1:=by omega
 by_cases hi:i<64
 ·have k1:((i:Int)+1≤64)=True:=eqt om;have c181:=t48 ((i:Int)+1) h (SG.pow hp) om om;have hl:(Lib.itoa ((i:Int)+1)).length≤9:=by rw[←ec];exact qeR om
  obtain⟨t,ht⟩: ∃t,t=Lib.itoa ((i:Int)+1):=⟨_,rfl⟩
  rw[←ht]at c181 hl
  by_cases g:s=91::(t++ [93])
  ·have q1:(s=91::(t++ [93]))=True:=eqt g;have hV:qer s=true:=by
    unfold qer;rw[List.any_eq_true];exact⟨i,by simpa using hi,dqt (by rw[ec,←ht];exact g)⟩
   rw[hV];simp (disch:=omega) only[ec,k1,go_sem]
   repeat' first
    |(refine cA (c181) flk ?_;simp (disch:=omega) only[q1,go_sem])
    |(apply qh;exact rvk;simp only[go_sem];exact qi)
    |with_reducible apply aiA
   all_goals try exact clz
  ·have q1:(s=91::(t++ [93]))=False:=eqf g;simp (disch:=omega) only[ec,k1,go_sem]
   repeat' first
    |(refine cA (c181) flk ?_;simp (disch:=omega) only[q1,go_sem])
    |with_reducible apply aiA
   all_goals try exact clz
   refine hK _ _ (i+1) ⟨hi,fun j hj=> ?_⟩ om (Wk.temps ?_)
   ·by_cases e':j=i
    ·subst e';rw[ec,←ht];exact g
    ·exact i2 j om
   ·(simp only[go_sem,qf,qc,qa,qe];try (repeat' first|(with_reducible apply aiA)|(apply qg;omega)|(apply qd;rfl)|exact qi))
 ·have k1:((i:Int)+1≤64)=False:=eqf om;have hV:qer s=false:=by
   cases e:qer s with
   |false=>rfl
   |true=>
    unfold qer at e;rw[List.any_eq_true]at e;obtain⟨j,hj,e⟩:=e;exact absurd (of_decide_eq_true e) (i2 j (by have:j<64:=(by simpa using hj);omega))
  rw[hV];simp (disch:=omega) only[ec,k1,go_sem]
  repeat' first
   |(apply qh;exact rvk;simp only[go_sem];exact qi)
def qo2(C L:List Int):List Int:=L.foldl (fun C n=>C.set n.toNat (C.getD n.toNat 0+1)) C
theorem qmB(L:List Int): ∀C:List Int,(qo2 C L).length=C.length:=by
 induction L with
 |nil=>intro C;rfl
 |cons n L ih=>intro C;show (qo2 (C.set _ _) L).length=_;rw[ih];simp
theorem qj9{C:List Int}{n:Nat}(h:n<C.length):(qF C)[n]? =some (.int .i64 (C.getD n 0)):=by
 unfold qF;rw[List.getElem?_map,zY h,gdqA,zY h];rfl
theorem qm1{names:List Str}{gs:List Gr}{sg:List Str}:inB names.length (qb9 names gs sg)∧ ∀i,0<i→i<(qb9 names gs sg).length→(qb9 names gs sg).getD (i-1) 0<(qb9 names gs sg).getD i 0:=by
 unfold qb9;split
 ·rename_i h;have h':=h;unfold qgN at h';split at h'
  ·cases h'
  rename_i h1;have hok:=qpK (by simpa using h1);have hz:=jU.1 h';obtain⟨m1,m2⟩:=qpZ hok hz;have hsort:(qat (qoZ names gs sg sg.length).testBit 64).Pairwise (· < ·):=by
   unfold qat;rw[List.pairwise_map];exact (List.pairwise_lt_range.filter _).imp (fun h=>Int.ofNat_lt.2 h)
  have hmem: ∀n∈qat (qoZ names gs sg sg.length).testBit 64,0≤n∧n<names.length:=by
   intro n hn;unfold qat at hn;obtain⟨k,hk,rfl⟩:=List.mem_map.1 hn;have hk2:=(List.mem_filter.1 hk).2;rw[m2 k]at hk2;obtain⟨j,hj,hm⟩:=of_decide_eq_true hk2;have hf: ¬(nIx names (sg.getD j [])<0∧gIx gs (sg.getD j [])<0):=by
    intro hc
    have:=hz j hj
    unfold qoo at this;rw[ipo hc]at this;cases this
   exact qbB (qjA hok hf) _ hm
  refine⟨fun i hi=> ?_,fun i h0 hi=> ?_⟩
  ·rw[gdqA,zY hi];exact hmem _ (List.getElem_mem hi)
  ·rw[gdqA,gdqA,zY hi,zY (show i-1<_ by omega)];exact List.pairwise_iff_getElem.1 hsort (i-1) i om hi om
 ·exact⟨fun i hi=>absurd hi (nnz i),fun i _ hi=>absurd hi (nnz i)⟩
theorem qm2{names:List Str}{gs:List Gr}{sg:List Str}:inB 32 (qb9 names gs sg):=by
 by_cases h:qgN names gs sg=0
 ·have h':=h;unfold qgN at h';split at h'
  ·cases h'
  rename_i h1;have hok:=qpK (by simpa using h1);exact qfR qm1.1 (by have:=hok.n32;omega)
 ·have:qb9 names gs sg= []:=by unfold qb9;rw[ine h]
  rw[this];exact fun i hi=>absurd hi (nnz i)
structure Va where
 words:List Str
 sigla:List Str
 deriving Inhabited
structure En where
 layer:Int
 frm:Int
 to:Int
 pos:Bool
 sup:List Str
 vars:List Va
 deriving Inhabited
def vaC(v:Va):List AV:= [strs v.words,strs v.sigla]
def qpT(vs:List Va):AV:= .sl vs.length fun i=>vaC (vs.getD i default)
def enC(e:En):List AV:= [.int .i64 e.layer,.int .i64 e.frm,.int .i64 e.to,.bool e.pos,strs e.sup,qpT e.vars]
def qme(l:List En):AV:= .sl l.length fun i=>enC (l.getD i default)
theorem qjO(L:List Va):(qpT L).flag=true:=rfl
theorem qhK(L:List Va):(qpT L).strip=qpT L:=rfl
theorem qns{fz:Nat→Bool}{h:List AObj}{n:Nat}(L:List Va):frz fz h (n+1) (qpT L)=qpT L:=rfl
theorem qof{fz:Nat→Bool}{h:List AObj}{n:Nat}(L:List Va):rei fz h (n+1) (qpT L)=qpT L:=rfl
theorem qjK(L:List En):(qme L).flag=true:=rfl
theorem qhG(L:List En):(qme L).strip=qme L:=rfl
theorem qno{fz:Nat→Bool}{h:List AObj}{n:Nat}(L:List En):frz fz h (n+1) (qme L)=qme L:=rfl
theorem qoc{fz:Nat→Bool}{h:List AObj}{n:Nat}(L:List En):rei fz h (n+1) (qme L)=qme L:=rfl
attribute [go_sem] qjO qhK qns qof qjK qhG qno qoc
theorem qyb(ws:List Str)(m:Nat)(k:Nat→Str)(h:List AObj)(h1:ws.length≤1000000000)(h2:m≤1000000000):
  ACalls Tryz.prog 53 [strs ws,.sl m (fun j=> [.str (k j)])] h (.bool (decide (ws.length=m∧ ∀i,i<ws.length→ws.getD i []=k i))) h:=by
 unfold strs
 have:=qya qyg ws.length m (fun j=> .s (ws.getD j [])) (fun j=> .s (k j)) h (fun _ _ _=>rfl) om om
 simpa only[At.v,At.s.injEq] using this
theorem je{α:Type}[Inhabited α]{a b:List α}(d:α):a=b↔a.length=b.length∧ ∀i,i<a.length→a.getD i d=b.getD i d:=by
 constructor
 ·rintro rfl;exact⟨rfl,fun _ _=>rfl⟩
 ·rintro⟨h1,h2⟩;apply List.ext_getElem h1;intro i h3 h4
  have:=h2 i h3
  rw[gdqA,gdqA,zY h3,zY h4]at this;exact this
def qmi(t:List Str)(f g:Nat):List Str:=(t.drop f).take (g-f)
theorem qoJ{t:List Str}{f g:Nat}(h1:f≤g)(h2:g≤t.length):(qmi t f g).length=g-f:=by unfold qmi;simp;omega
def qoR(t:List Str)(e:En)(i:Nat):Int:=
 if qmd (e.vars.getD i default).words≠0 then 11 else if (e.vars.getD i default).words=qmi t e.frm.toNat e.to.toNat then 9 else
  if zE (fun j=>decide ((e.vars.getD i default).words=(e.vars.getD j default).words)) i=true then 7 else if (e.vars.getD i default).sigla.length=0 then 5 else 0
def cnt(names:List Str)(gs:List Gr)(e:En):Nat→List Int
 |0=>qo2 (List.replicate 32 0) (qb9 names gs e.sup)
 |i+1=>qo2 (cnt names gs e i) (qb9 names gs (e.vars.getD i default).sigla)
def qst(C:List Int):Bool:=zE (fun i=>decide (1<C.getD i 0)) C.length
def qs8(t:List Str)(e:En):Prop:=e.layer<0∨16≤e.layer∨e.frm<0∨e.to<e.frm∨(t.length:Int)<e.to
instance (t:List Str) (e:En):Decidable (qs8 t e):=by unfold qs8;infer_instance
def qxZ(names:List Str)(gs:List Gr)(t:List Str)(e:En):Int:=
 if sgE names gs≠0 then 1 else if 4096<t.length then 4 else if qmd t≠0 then 11 else if qs8 t e then 2 else
  if 0<e.sup.length∧e.pos=false then 1 else if e.vars.length=0 then 5 else
   if qaU (qoR t e) 0 e.vars.length≠0 then qaU (qoR t e) 0 e.vars.length else
    if qgN names gs e.sup≠0 then qgN names gs e.sup else
     if qaU (fun i=>qgN names gs (e.vars.getD i default).sigla) 0 e.vars.length≠0 then qaU (fun i=>qgN names gs (e.vars.getD i default).sigla) 0 e.vars.length else
      if qst (cnt names gs e e.vars.length)=true then 17 else 0
theorem fmI(l:List Int):List.flatMap (fun i=> [AV.int .i64 (l.getD i 0)]) (List.range l.length)=qF l:=by
 induction l with
 |nil=>rfl
 |cons a l ih=>
  rw[lco,List.range_succ_eq_map,List.flatMap_cons,List.flatMap_map];show AV.int .i64 a::List.flatMap (fun i=> [AV.int .i64 (l.getD i 0)]) (List.range l.length)=_;rw[ih];rfl
theorem qg5{p q:Nat→Bool}{n:Nat}(h: ∀k,k<n→p k=q k):qat p n=qat q n:=by
 unfold qat;congr 1;refine List.filter_congr fun k hk=>h k (List.mem_range.1 hk)
theorem qfX{p:Nat→Bool}{n:Nat}{x:Int}:x∈qat p n↔ ∃k:Nat,k<n∧p k=true∧x=k:=by
 unfold qat;constructor
 ·intro h;obtain⟨k,hk,rfl⟩:=List.mem_map.1 h;obtain⟨h1,h2⟩:=List.mem_filter.1 hk;exact⟨k,List.mem_range.1 h1,h2,rfl⟩
 ·rintro⟨k,h1,h2,rfl⟩;exact List.mem_map.2 ⟨k,List.mem_filter.2 ⟨List.mem_range.2 h1,h2⟩,rfl⟩
theorem smw(ws:List Str)(m:Nat)(k:Nat→Str)(h:List AObj)(h1:ws.length≤1000000000)(h2:m≤1000000000):
  ACalls Tryz.prog 103 [strs ws,.sl m (fun j=> [.str (k j)])] h (.bool (decide (ws.length=m∧ ∀i,i<ws.length→ws.getD i []=k i))) h:=by
 obtain⟨R,hR⟩: ∃R,R=decide (ws.length=m∧ ∀i,i<ws.length→ws.getD i []=k i):=⟨_,rfl⟩
 rw[←hR]
 by_cases g:ws.length=m
 ·have k0:((ws.length:Int)=m)=True:=eqt om;refine acO qo9 ?_;simp (disch:=omega) only[qqb,strs,k0,go_sem];refine qn (T:=fun i:Nat=>qP 26 [(0,strs ws),(1,.sl m (fun j=> [.str (k j)])),(5,.int .i64 i)]) (H:=fun _=>h) (inv:=fun i=>i≤ws.length∧ ∀j,j<i→ws.getD j []=k j) (m:=fun i=>ws.length-i) 0 ⟨nzl _,fun j hj=>by omega⟩ (Wk.temps ?_) ?_
  ·(simp only[strs,go_sem,qf,qc,qa,qe];try (repeat' first|(with_reducible apply aiA)|(apply qg;omega)|(apply qd;rfl)|exact qi))
  rintro i ⟨i1,i2⟩ K hK
  by_cases hi:i<ws.length
  ·have k1:((i:Int)<ws.length)=True:=eqt om;have k3:((i:Int)<m)=True:=eqt om;obtain⟨x,hx⟩: ∃x,x=ws.getD i []:=⟨_,rfl⟩
   have ex:=hx.symm
   by_cases e:x=k i
   ·have k2:(x=k i)=True:=eqt e;simp (disch:=omega) only[strs,k1,k2,k3,ex,go_sem]
    repeat' first
     |with_reducible apply aiA
    all_goals try exact clz
    refine hK _ _ (i+1) ⟨hi,fun j hj=> ?_⟩ om (Wk.temps ?_)
    ·by_cases e':j=i
     ·subst e';rw[ex];exact e
     ·exact i2 j om
    ·(simp only[strs,go_sem,qf,qc,qa,qe];try (repeat' first|(with_reducible apply aiA)|(apply qg;omega)|(apply qd;rfl)|exact qi))
   ·have k2:(x=k i)=False:=eqf e;have hV:R=false:=by rw[hR];exact dqf fun hc=>e (by rw[←ex];exact hc.2 i hi)
    rw[hV];simp (disch:=omega) only[strs,k1,k2,k3,ex,go_sem]
    repeat' first
     |(apply qh;exact rvk;simp only[go_sem];exact qi)
     |with_reducible apply aiA
    all_goals try exact clz
  ·have k1:((i:Int)<ws.length)=False:=eqf om;have hV:R=true:=by rw[hR];exact dqt ⟨g,fun j hj=>i2 j om⟩
   rw[hV];simp (disch:=omega) only[strs,k1,go_sem]
   repeat' first
    |(apply qh;exact rvk;simp only[go_sem];exact qi)
 ·have k0:((ws.length:Int)=m)=False:=eqf om;have hV:R=false:=by rw[hR];exact dqf fun hc=>g hc.1
  rw[hV];refine acO qo9 ?_;simp (disch:=omega) only[qqb,strs,k0,go_sem]
  repeat' first
   |(apply qh;exact rvk;simp only[go_sem];exact qi)
theorem qyQ(a b:List Str)(h:List AObj)(h1:a.length≤1000000000)(h2:b.length≤1000000000):
  ACalls Tryz.prog 103 [strs a,strs b] h (.bool (decide (a=b))) h:=by
 have c:=smw a b.length (fun j=>b.getD j []) h h1 h2;have e:decide (a.length=b.length∧ ∀i,i<a.length→a.getD i []=b.getD i [])=decide (a=b):=decide_eq_decide.2 (je ([]:Str)).symm;rw[e]at c;exact c
def qh3(names:List Str)(gs:List Gr)(e:En):Nat→List Int×Bool
 |0=>(qb9 names gs e.sup,false)
 |i+1=>(qat (fun k=>decide ((k:Int)∈(qh3 names gs e i).1)||decide ((k:Int)∈qb9 names gs (e.vars.getD i default).sigla)) 64,(qh3 names gs e i).2||(qh3 names gs e i).1.any fun x=>decide (x∈qb9 names gs (e.vars.getD i default).sigla))
theorem qmm(names:List Str)(gs:List Gr)(e:En)(i:Nat):qh3 names gs e (i+1)=(qat (fun k=>decide ((k:Int)∈(qh3 names gs e i).1)||decide ((k:Int)∈qb9 names gs (e.vars.getD i default).sigla)) 64,(qh3 names gs e i).2||(qh3 names gs e i).1.any fun x=>decide (x∈qb9 names gs (e.vars.getD i default).sigla)):=rfl
theorem qmA(L:List Int): ∀(C:List Int) (j:Nat),L.Nodup→(∀x∈L,0≤x∧x<C.length)→j<C.length→(qo2 C L).getD j 0=C.getD j 0+if (j:Int)∈L then 1 else 0:=by
 induction L with
 |nil=>intro C j _ _ _;simp[qo2]
 |cons n L ih=>
  intro C j hn hL hj;obtain⟨h1,h2⟩:=List.nodup_cons.1 hn;have hb:=hL n (by simp);show (qo2 (C.set n.toNat (C.getD n.toNat 0+1)) L).getD j 0=_;rw[ih _ j h2 (fun x hx=>by rw[List.length_set];exact hL x (by simp[hx])) (by rw[List.length_set];exact hj)]
  by_cases e:(j:Int)=n
  ·have e2:n.toNat=j:=by omega
   have e3: ¬(j:Int)∈L:=by rw[e];exact h1
   rw[ine e3,ipo (by rw[e];simp),e2]
   have:(C.set j (C.getD j 0+1)).getD j 0=C.getD j 0+1:=by
    rw[gdqA,List.getElem?_set_self hj];rfl
   rw[this];omega
  ·have e2: ¬n.toNat=j:=by omega
   have:(C.set n.toNat (C.getD n.toNat 0+1)).getD j 0=C.getD j 0:=by
    rw[gdqA,List.getElem?_set_ne e2,←gdqA]
   rw[this];congr 1;simp[e]
theorem qg6(p:Nat→Bool)(n:Nat):(qat p n).Nodup:=by
 unfold qat;rw[List.Nodup,List.pairwise_map];refine List.Pairwise.imp ?_ (List.Pairwise.filter _ List.nodup_range);intro a b hab hc;exact hab (by have hx:(a:Int)=(b:Int):=hc;omega)
theorem qcw(names:List Str)(gs:List Gr)(sg:List Str):(qb9 names gs sg).Nodup:=by
 unfold qb9;split
 ·exact qg6 _ _
 ·exact List.nodup_nil
structure qxz (A:List Int) (B:Bool) (C:List Int):Prop where
 len:C.length=32
 rng: ∀x∈A,0≤x∧x<32
 mem: ∀k:Nat,k<32→((k:Int)∈A↔1≤C.getD k 0)
 nn: ∀k:Nat,k<32→0≤C.getD k 0
 tw:B=true↔ ∃k:Nat,k<32∧1<C.getD k 0
theorem qfT{A O A' C:List Int}{B:Bool}(h:qxz A B C)(ho:O.Nodup)(hr: ∀x∈O,0≤x∧x<32)(hA: ∀x,x∈A'↔x∈A∨x∈O):qxz A' (B||A.any fun x=>decide (x∈O)) (qo2 C O):=by
 have hl:=h.len;have hg:=fun (k:Nat) (hk:k<32)=>qmA O C k ho (fun x hx=>by have:=hr x hx;omega) om
 refine⟨by rw[qmB,hl],fun x hx=> ?_,fun k hk=> ?_,fun k hk=> ?_,?_⟩
 ·rcases (hA x).1 hx with hx|hx
  ·exact h.rng x hx
  ·exact hr x hx
 ·rw[hA,h.mem k hk,hg k hk]
  have:=h.nn k hk
  by_cases e:(k:Int)∈O
  ·rw[ipo e];exact⟨fun _=>by omega,fun _=> .inr e⟩
  ·rw[ine e];constructor
   ·rintro (h1|h1)
    ·omega
    ·exact absurd h1 e
   ·intro h1;exact .inl om
 ·rw[hg k hk]
  have:=h.nn k hk
  split<;>omega
 ·rw[Bool.or_eq_true,h.tw,List.any_eq_true];constructor
  ·rintro (⟨k,hk,h1⟩|⟨x,hx,h1⟩)
   ·refine⟨k,hk,?_⟩;rw[hg k hk];split<;>omega
   ·have h1:=of_decide_eq_true h1;have hx2:=h.rng x hx;have e:((x.toNat:Nat):Int)=x:=by omega
    refine⟨x.toNat,om,?_⟩;rw[hg _ om,e,ipo h1]
    have:=(h.mem x.toNat om).1 (by rw[e];exact hx)
    omega
  ·rintro⟨k,hk,h1⟩;rw[hg k hk]at h1
   by_cases e:(k:Int)∈O
   ·rw[ipo e]at h1;exact .inr ⟨(k:Int),(h.mem k hk).2 om,dqt e⟩
   ·rw[ine e]at h1;exact .inl ⟨k,hk,om⟩
theorem qrB:qxz [] false (List.replicate 32 0):=by
 have g: ∀k:Nat,k<32→(List.replicate 32 (0:Int)).getD k 0=0:=fun k hk=>by
  rw[gdqA,List.getElem?_replicate,ipo hk];rfl
 refine⟨by simp,fun x hx=>by simp at hx,fun k hk=> ?_,fun k hk=> ?_,?_⟩
 ·rw[g k hk];simp
 ·rw[g k hk];omega
 ·constructor
  ·intro h;cases h
  ·rintro⟨k,hk,h1⟩;rw[g k hk]at h1;omega
theorem qpX(names:List Str)(gs:List Gr)(e:En): ∀i,qxz (qh3 names gs e i).1 (qh3 names gs e i).2 (cnt names gs e i):=by
 have hO:=fun sg=>qbB (@qm2 names gs sg)
 intro i
 induction i with
 |zero=>
  have:=qfT (A':=qb9 names gs e.sup) qrB (qcw names gs e.sup) (hO e.sup) (fun x=>by simp)
  exact this
 |succ i ih=>
  rw[qmm];unfold cnt;refine qfT ih (qcw _ _ _) (hO _) (fun x=> ?_);rw[qfX];constructor
  ·rintro⟨k,hk,h1,rfl⟩;simpa using h1
  ·intro hx;have hb:0≤x∧x<32:=by
    rcases hx with hx|hx
    ·exact ih.rng x hx
    ·exact hO _ x hx
   have e:((x.toNat:Nat):Int)=x:=by omega
   refine⟨x.toNat,om,?_,e.symm⟩;simp only[e];simpa using hx
theorem qdr(names:List Str)(gs:List Gr)(e:En)(i:Nat):qst (cnt names gs e i)=(qh3 names gs e i).2:=by
 have h:=qpX names gs e i;unfold qst;rw[h.len,Bool.eq_iff_iff,h.tw,qv];simp only[decide_eq_true_eq]
def inV(names:List Str)(gs:List Gr)(e:En)(src:Int)(i:Nat):Bool:=decide (src∈qb9 names gs (e.vars.getD i default).sigla)
def vIx(names:List Str)(gs:List Gr)(e:En)(src:Int):Int:=qbi (inV names gs e src) e.vars.length 0
def qfy(a b:En):Bool:=decide (a.frm<b.frm)||decide (a.frm=b.frm)&&decide (a.to<b.to)
end RC
end
section
open Go Go.Proofs AF
end
section
open Go Go.Proofs AF HY LN
namespace RC
end RC
end
section
namespace RC
variable {α : Type}
def qcd(lt:α→α→Bool)(x:α):List α→List α
 | []=> [x]
 |y::r=>if lt x y=true then y::qcd lt x r else x::y::r
def qee(lt:α→α→Bool):List α→List α→List α
 |acc,[]=>acc
 |acc,x::r=>qee lt (qcd lt x acc) r
def qtc(lt:α→α→Bool):Prop:= ∀a b c,lt a b=false→lt b c=false→lt a c=false
def Asy(lt:α→α→Bool):Prop:= ∀a b,lt a b=true→lt b a=false
def qsX(lt:α→α→Bool)(l:List α):Prop:=l.Pairwise fun a b=>lt a b=false
theorem qnz{lt:α→α→Bool}{x:α}: ∀ {l:List α} {z:α},z∈qcd lt x l↔z=x∨z∈l:=by
 intro l
 induction l with
 |nil=>intro z;simp[qcd]
 |cons y r ih=>
  intro z;unfold qcd;split
  ·simp only[List.mem_cons,ih];constructor
   ·rintro (h|h|h)
    ·exact .inr (.inl h)
    ·exact .inl h
    ·exact .inr (.inr h)
   ·rintro (h|h|h)
    ·exact .inr (.inl h)
    ·exact .inl h
    ·exact .inr (.inr h)
  ·simp
theorem qbV{lt:α→α→Bool}(hn:qtc lt)(ha:Asy lt){x:α}: ∀ {l:List α},qsX lt l→qsX lt (qcd lt x l):=by
 intro l
 induction l with
 |nil=>intro _;exact List.pairwise_singleton _ _
 |cons y r ih=>
  intro h;obtain⟨h1,h2⟩:=List.pairwise_cons.1 h;unfold qcd
  by_cases g:lt x y=true
  ·rw[ipo g];refine List.pairwise_cons.2 ⟨fun z hz=> ?_,ih h2⟩;rcases qnz.1 hz with rfl|hz
   ·exact ha _ _ g
   ·exact h1 z hz
  ·rw[ine g];have g:lt x y=false:=by simpa using g
   refine List.pairwise_cons.2 ⟨fun z hz=> ?_,h⟩;rcases List.mem_cons.1 hz with rfl|hz
   ·exact g
   ·exact hn _ _ _ g (h1 z hz)
theorem qj7{lt:α→α→Bool}{x:α}{l:List α}(h: ∀z∈l,lt x z=false):qcd lt x l=x::l:=by
 cases l with
 |nil=>rfl
 |cons y r=>
  unfold qcd;rw[ine (by rw[h y (by simp)];simp)]
theorem qeK{lt:α→α→Bool}(hn:qtc lt)(p:α→Bool)(x:α): ∀ {l:List α},qsX lt l→(qcd lt x l).filter p=if p x=true then qcd lt x (l.filter p) else l.filter p:=by
 intro l
 induction l with
 |nil=>intro _;unfold qcd;by_cases h:p x=true<;>simp[h,qcd]
 |cons y r ih=>
  intro h;obtain⟨h1,h2⟩:=List.pairwise_cons.1 h
  by_cases g:lt x y=true
  ·have e:qcd lt x (y::r)=y::qcd lt x r:=by rw[qcd,ipo g]
   rw[e,List.filter_cons,List.filter_cons,ih h2]
   by_cases hy:p y=true
   ·rw[ipo hy,ipo hy]
    by_cases hx:p x=true
    ·rw[ipo hx,ipo hx,qcd,ipo g]
    ·rw[ine hx,ine hx]
   ·rw[ine hy,ine hy]
  ·have e:qcd lt x (y::r)=x::y::r:=by rw[qcd,ine g]
   have g:lt x y=false:=by simpa using g
   rw[e]
   by_cases hx:p x=true
   ·rw[ipo hx,List.filter_cons,ipo hx,qj7];intro z hz;rcases List.mem_cons.1 (List.mem_filter.1 hz).1 with rfl|hz
    ·exact g
    ·exact hn _ _ _ g (h1 z hz)
   ·rw[ine hx,List.filter_cons,ine hx]
theorem qdH{lt:α→α→Bool}(hn:qtc lt)(ha:Asy lt)(p:α→Bool): ∀(l acc:List α),qsX lt acc→(qee lt acc l).filter p=qee lt (acc.filter p) (l.filter p):=by
 intro l
 induction l with
 |nil=>intro acc _;rfl
 |cons x r ih=>
  intro acc h;rw[qee,ih _ (qbV hn ha h),qeK hn p x h,List.filter_cons]
  by_cases hx:p x=true
  ·rw[ipo hx,ipo hx,qee]
  ·rw[ine hx,ine hx]
theorem qef{lt:α→α→Bool}(hn:qtc lt)(ha:Asy lt): ∀(l acc:List α),qsX lt acc→qsX lt (qee lt acc l):=by
 intro l
 induction l with
 |nil=>intro acc h;exact h
 |cons x r ih=>intro acc h;exact ih _ (qbV hn ha h)
end RC
end
section
namespace RC
variable {α : Type}
end RC
end
section
open Go Go.Proofs AF HY LN
namespace RC
theorem qaw{a b:En}:qfy a b=true↔a.frm<b.frm∨a.frm=b.frm∧a.to<b.to:=by
 unfold qfy;simp[Bool.or_eq_true,Bool.and_eq_true]
theorem qaW{a b:En}:qfy a b=false↔b.frm<a.frm∨a.frm=b.frm∧b.to≤a.to:=by
 have:= @qaw a b
 cases h:qfy a b with
 |true=>rw[h]at this;simp only[true_iff]at this;simp only[Bool.true_eq_false,false_iff];omega
 |false=>rw[h]at this;simp only[Bool.false_eq_true,false_iff]at this;simp only[true_iff];omega
theorem qfA:qtc qfy:=by
 intro a b c h1 h2;rw[qaW]at*;omega
theorem qfz:Asy qfy:=by
 intro a b h;rw[qaw]at h;rw[qaW];omega
def qs9(l:List En):List En:=(qee qfy [] l).reverse
def qz5(names:List Str)(gs:List Gr)(src:Int)(e:En):Bool:=decide (0≤vIx names gs e src)
def ofE(names:List Str)(gs:List Gr)(l:List En)(src:Int):List En:=(qs9 l).filter (qz5 names gs src)
theorem qj8{α:Type}{lt:α→α→Bool}{x:α}: ∀l:List α,(qcd lt x l).Perm (x::l):=by
 intro l
 induction l with
 |nil=>exact List.Perm.refl _
 |cons y r ih=>
  unfold qcd;split
  ·exact (List.Perm.cons y ih).trans (List.Perm.swap x y r)
  ·exact List.Perm.refl _
theorem qhv{α:Type}{lt:α→α→Bool}: ∀l acc:List α,(qee lt acc l).Perm (acc++l):=by
 intro l
 induction l with
 |nil=>intro acc;rw[lan];exact List.Perm.refl _
 |cons x r ih=>
  intro acc;refine (ih _).trans ((List.Perm.append_right r (qj8 acc)).trans ?_);exact (List.perm_middle (a:=x) (l₁:=acc) (l₂:=r)).symm
theorem qeh(l:List En):(qs9 l).Perm l:=(List.reverse_perm _).trans (by simpa using qhv (lt:=qfy) l [])
theorem qfa(l:List En):(qs9 l).Pairwise fun a b=>qfy b a=false:=by
 unfold qs9;rw[List.pairwise_reverse];exact qef qfA qfz l [] List.Pairwise.nil
def qbS(a b:En):Bool:=decide (b.frm<a.to)||decide (a.frm=b.frm)&&decide (a.to=b.to)
def kN:List En→Bool
 |a::b::r=>qbS a b||kN (b::r)
 |_=>false
theorem qjn(L:List En):kN L=true↔ ∃i,i+1<L.length∧qbS (L.getD i default) (L.getD (i+1) default)=true:=by
 induction L with
 |nil=>simp[kN]
 |cons a L ih=>
  cases L with
  |nil=>simp[kN]
  |cons b r=>
   rw[kN,Bool.or_eq_true,ih];constructor
   ·rintro (h|⟨i,h1,h2⟩)
    ·exact⟨0,by simp,h⟩
    ·exact⟨i+1,by simpa using h1,h2⟩
   ·rintro⟨i,h1,h2⟩;cases i with
    |zero=>exact .inl h2
    |succ i=>exact .inr ⟨i,by simpa using h1,h2⟩
def qfu(names:List Str)(gs:List Gr)(l:List En):Bool:=zE (fun s=>kN (ofE names gs l (s:Int))) names.length
theorem qcr{a:En}{r:List En}(h:kN (a::r)=false):kN r=false:=by
 cases r with
 |nil=>rfl
 |cons b r=>rw[kN,Bool.or_eq_false_iff]at h;exact h.2
theorem qlA{L:List En}(hs:L.Pairwise fun a b=>qfy b a=false)(hc:kN L=false):L.Pairwise fun a b=>qfy a b=true:=by
 induction L with
 |nil=>exact List.Pairwise.nil
 |cons a r ih=>
  obtain⟨h1,h2⟩:=List.pairwise_cons.1 hs;have h3:=ih h2 (qcr hc);refine List.pairwise_cons.2 ⟨?_,h3⟩;cases r with
  |nil=>intro z hz;cases hz
  |cons b r=>
   have hab:qfy a b=true:=by
    rw[kN,Bool.or_eq_false_iff]at hc;have h5:=hc.1;unfold qbS at h5;rw[Bool.or_eq_false_iff,Bool.and_eq_false_imp,decide_eq_false_iff_not,decide_eq_true_iff,decide_eq_false_iff_not]at h5;have h4:=h1 b (by simp);rw[qaW]at h4;rw[qaw];obtain⟨h5,h6⟩:=h5
    by_cases e:a.frm=b.frm
    ·have:=h6 e;omega
    ·omega
   intro z hz;rcases List.mem_cons.1 hz with rfl|hz
   ·exact hab
   ·have h6:=(List.pairwise_cons.1 h3).1 z hz;rw[qaw]at*;omega
theorem qmN{L:List En}(hc:kN L=false){i:Nat}(hi:i+1<L.length):(L.getD i default).to≤(L.getD (i+1) default).frm:=by
 cases h:qbS (L.getD i default) (L.getD (i+1) default)with
 |true=>rw[(qjn L).2 ⟨i,hi,h⟩]at hc;cases hc
 |false=>
  unfold qbS at h;rw[Bool.or_eq_false_iff,decide_eq_false_iff_not]at h;omega
theorem qha(names:List Str)(gs:List Gr)(l:List En)(src:Int):(ofE names gs l src).Pairwise fun a b=>qfy b a=false:=List.Pairwise.filter _ (qfa l)
theorem qai{names:List Str}{gs:List Gr}{l:List En}(h:qfu names gs l=false){s:Nat}(hs:s<names.length):kN (ofE names gs l (s:Int))=false:=
 qk.1 h s hs
structure qsV (names:List Str) (gs:List Gr) (t:List Str) (l:List En):Prop where
 sg:sgE names gs=0
 n:l.length≤4096
 ck: ∀e∈l,qxZ names gs t e=0
 cl:qfu names gs l=false
structure qxI (names:List Str) (gs:List Gr) (t:List Str) (e:En):Prop where
 sg:sgE names gs=0
 tn:t.length≤4096
 tw:qmd t=0
 lay:0≤e.layer∧e.layer<16
 rng:0≤e.frm∧e.frm≤e.to∧e.to≤t.length
 sp:0<e.sup.length→e.pos=true
 ne:e.vars.length≠0
 va: ∀i,i<e.vars.length→qoR t e i=0
 es:qgN names gs e.sup=0
 ev: ∀i,i<e.vars.length→qgN names gs (e.vars.getD i default).sigla=0
 tc:(qh3 names gs e e.vars.length).2=false
theorem qjm{names:List Str}{gs:List Gr}{t:List Str}{e:En}:qxZ names gs t e=0↔qxI names gs t e:=by
 unfold qxZ;constructor
 ·intro h;split at h
  ·cases h
  rename_i h1;split at h
  ·cases h
  rename_i h2;split at h
  ·cases h
  rename_i h3;split at h
  ·cases h
  rename_i h4;split at h
  ·cases h
  rename_i h5;split at h
  ·cases h
  rename_i h6;split at h
  ·rename_i h7;exact absurd h h7
  rename_i h7;split at h
  ·rename_i h8;exact absurd h h8
  rename_i h8;split at h
  ·rename_i h9;exact absurd h h9
  rename_i h9;split at h
  ·cases h
  rename_i h10;unfold qs8 at h4;refine⟨Classical.not_not.1 h1,om,Classical.not_not.1 h3,om,om,fun h=> ?_,h6,jU.1 (Classical.not_not.1 h7),Classical.not_not.1 h8,jU.1 (Classical.not_not.1 h9),?_⟩
  ·cases hp:e.pos with
   |true=>rfl
   |false=>exact absurd ⟨h,hp⟩ h5
  ·rw[qdr]at h10;simpa using h10
 ·rintro⟨h1,h2,h3,h4,h5,h6,h7,h8,h9,h10,h11⟩;have hr: ¬qs8 t e:=by unfold qs8;omega
  rw[ine (fun hc=>hc h1),ine om,ine (fun hc=>hc h3),ine hr,ine (by rintro⟨a,b⟩;rw[h6 a]at b;cases b),ine h7,ine (fun hc=>hc (zI (f:=qoR t e) h8)),ine (fun hc=>hc h9),
   ine (fun hc=>hc (zI (f:=fun i=>qgN names gs (e.vars.getD i default).sigla) h10)),ine (by rw[qdr,h11];simp)]
section
variable {k v w : Nat} {h : List AObj} {o o' : AObj} {ty : TypeId} {cs : List AV}
end
end RC
end
section
open Go Go.Proofs AF HY LN
namespace AF
theorem Wk.cells{t:List AV}{h:List AObj}{j v:Nat}{ty:TypeId}{cs cs':List AV}(hj:getO j h=some (.mem v ty cs))(hc:qau cs cs'):Wk t h t (setO j h (.mem v ty cs')):=by
 intro N w σ a H;have hjl:j<σ.length:=by rw[H.hr.len];exact zp hj
 have ho:=zY hjl;obtain⟨m1,m2,b,arr,m3,m4,m5,m6,m7,m8⟩:=H.hr.obj j _ _ hj ho;have q:=H.hr.recell (cs':=cs') hj ho m3 m4 m5 (by rw[hc.length];exact m6) (fun i x hi hx=>m7 i x (by rw[←hc.length];exact hi) hx) (fun i c x hi hx=>by
  obtain⟨c0,h1,h2⟩:=hc.get i c hi
  exact h2 _ _ _ (m8 i c0 x h1 hx))
 exact⟨σ,⟨q,H.sz,H.tm,H.df⟩,Ext.refl _ _⟩
end AF
namespace RC
end RC
end
section
open Go Go.Proofs AF HY LN
namespace RC
theorem qp2(L:List Int)(src:Int):zE (fun j=>decide (src=L.getD j 0)) L.length=decide (src∈L):=by
 by_cases h:src∈L
 ·rw[dqt h,qv];obtain⟨j,hj,e⟩:=List.getElem_of_mem h;exact⟨j,hj,dqt (by rw[gdqA,zY hj];exact e.symm)⟩
 ·rw[dqf h,qk];intro j hj;refine dqf fun e=>h ?_
  rw[e,gdqA,zY hj];exact List.getElem_mem hj
theorem qx3(L:List Int)(x:Int)(h:List AObj)(hn:L.length≤1000000000):ACalls Tryz.prog 135 [qr L,.int .i64 x] h (.bool (decide (x∈L))) h:=by
 have:=qv0 qu1 L.length (fun j=> .i (L.getD j 0)) (.i x) h (fun _ _=>rfl) om
 simp only[At.v,At.i.injEq]at this;have c:=qs0 quP ⟨rfl,rfl⟩ ⟨rfl,rfl⟩ this;rw[←qp2];exact c
def stV(names:List Str)(gs:List Gr)(e:En):AV:= .sl e.vars.length fun j=> [qr (qb9 names gs (e.vars.getD j default).sigla)]
def msV(names:List Str)(gs:List Gr)(L:List En):AV:= .sl L.length fun i=> [stV names gs (L.getD i default)]
theorem qm8(names:List Str)(gs:List Gr)(e:En):(stV names gs e).flag=true:=rfl
theorem qlG(names:List Str)(gs:List Gr)(e:En):(stV names gs e).strip=stV names gs e:=rfl
theorem qm6(names:List Str)(gs:List Gr)(L:List En):(msV names gs L).flag=true:=rfl
theorem qlE(names:List Str)(gs:List Gr)(L:List En):(msV names gs L).strip=msV names gs L:=rfl
theorem qrl{fz:Nat→Bool}{h:List AObj}{n:Nat}(names:List Str)(gs:List Gr)(e:En):frz fz h (n+1) (stV names gs e)=stV names gs e:=rfl
theorem qr9{fz:Nat→Bool}{h:List AObj}{n:Nat}(names:List Str)(gs:List Gr)(e:En):rei fz h (n+1) (stV names gs e)=stV names gs e:=rfl
theorem qrk{fz:Nat→Bool}{h:List AObj}{n:Nat}(names:List Str)(gs:List Gr)(L:List En):frz fz h (n+1) (msV names gs L)=msV names gs L:=rfl
theorem qr8{fz:Nat→Bool}{h:List AObj}{n:Nat}(names:List Str)(gs:List Gr)(L:List En):rei fz h (n+1) (msV names gs L)=msV names gs L:=rfl
attribute [go_sem] qm8 qlG qm6 qlE qrl qr9 qrk qr8
end RC
end
section
open Go Go.Proofs AF HY LN
namespace AF
theorem qap{P:Program}{f:FuncId}{cap:List AV}{xs:List (List AV)}(hf:qtb P f cap xs){ps:List Nat}{b:Nat}{x y:C}{Q:Ex→Nx}{ts:List AV}{h:List AObj}(hps: ∀a∈xs,a.length=ps.length)
  (S:Nat→List AObj→Prop) (E:Ex→List AObj→Prop) (hS: ∀i hh,S i hh→LowI h hh) (hE: ∀s hh,E s hh→LowI h hh)
  (start:S 0 h) (hts: ∀c∈ts,zT (h.length+1) c=true)
  (body: ∀i hh tl L TS,(hi:i<xs.length)→S i hh→hh.length=h.length→ ∀(K:Nx) (K2:Ex→Nx),
   (∀t2 X hm,X=hm++ .lp .ready TS L::tl→hm.length=h.length→qS P b y K2 t2 (hm++ .lp .busy TS L::tl)→K t2 X)→
   (∀t3 X hh',X=hh'++ .lp .busy TS L::tl→hh'.length=h.length→S (i+1) hh'→K2 .normal t3 X)→
   (∀t3 X hh',X=hh'++ .lp .busy TS L::tl→hh'.length=h.length→E .ret hh'→K2 .ret t3 X)→
   (∀id t3 X hh',X=hh'++ .lp .busy TS L::tl→hh'.length=h.length→E (.exit id) hh'→K2 (.exit id) t3 X)→
   qS P b x (Ex.andThen K (fun _ _ _=>False)) (qbw ts ps (xs[i])) (hh++ .lp .ready TS L::tl))
  (done: ∀hh,S xs.length hh→Q .normal ts hh) (doneE: ∀e hh,E e hh→match e with
   | .normal=>False
   |e=>Q e ts hh):
  qd4 P (.fn (.func f) [] cap) ps (qS P b x) (qS P b y) Q ts h:=by
 intro L hy;show jm _ _ _ _ _;have key:=hf h ts L S (fun s hh=>match s with
  | .ret=>E .ret hh
  | .exit id=>E (.exit id) hh
  |_=>False) hS
  (by
   intro s hh hs;cases s with
   |ret=>exact hE _ _ hs
   |exit id=>exact hE _ _ hs
   |ready=>exact hs.elim
   |busy=>exact hs.elim)
  (by
   intro i hh tl hi i4;have hlen:=(hS _ _ i4).1;refine hy h.length ts _ _ _ (kx hlen) (hps _ (List.getElem_mem hi)) ?_;refine qaa (Q:=Ex.andThen (fun t2 h2=> ∃hm,hm.length=h.length∧h2=hm++ .lp .ready ts L::tl∧
    qS P b y (fun e t3 h3=> ∃hh',h3=hh'++ .lp .busy ts L::tl∧hh'.length=h.length∧match e with
     | .normal=>S (i+1) hh'
     | .ret=>E .ret hh'
     | .exit id=>E (.exit id) hh') t2 (hm++ .lp .busy ts L::tl)) (fun _ _ _=>False)) ?_
    (body i hh tl L ts hi i4 hlen _ _ (fun t2 X hm e1 e2 e3=>⟨hm,e2,e1,e3⟩) (fun t3 X hh' e1 e2 e3=>⟨hh',e1,e2,e3⟩) (fun t3 X hh' e1 e2 e3=>⟨hh',e1,e2,e3⟩) (fun id t3 X hh' e1 e2 e3=>⟨hh',e1,e2,e3⟩))
   intro e t2 h2 hq;cases e with
   |ret=>exact hq.elim
   |exit id=>exact hq.elim
   |normal=>
    obtain⟨hm,hml,rfl,h3⟩:=hq;refine⟨rfl,⟨ts,kx hml⟩,fun ts' hts'=> ?_⟩;rw[kx hml]at hts';cases hts';rw[qbp hml];refine qaa ?_ h3;rintro e t3 h3' ⟨hh',rfl,g1,g2⟩;refine⟨ts,kx g1,?_⟩;cases e with
    |normal=>exact⟨hh',.inl ⟨rfl,g2,qbp g1⟩⟩
    |ret=>exact⟨hh',.inr ⟨.ret,rfl,g2,qbp g1⟩⟩
    |exit id=>exact⟨hh',.inr ⟨.exit id,rfl,g2,qbp g1⟩⟩)
  start hts
 refine key.le (qau.refl _) ?_;rintro v h' ⟨hh,⟨g1,rfl⟩|⟨s,g1,rfl⟩⟩
 ·have hl:=hS _ _ g1;exact⟨v,qi,hh,.ready,ts,L,rfl,hl.1,fun o ho=>(hl.2 o ho).imp (fun h=>h) And.left,done hh g1⟩
 ·cases s with
  |ready=>exact g1.elim
  |busy=>exact g1.elim
  |ret=>
   have hl:=hE _ _ g1;exact⟨v,qi,hh,.ret,ts,L,rfl,hl.1,fun o ho=>(hl.2 o ho).imp (fun h=>h) And.left,doneE _ _ g1⟩
  |exit id=>
   have hl:=hE _ _ g1;exact⟨v,qi,hh,.exit id,ts,L,rfl,hl.1,fun o ho=>(hl.2 o ho).imp (fun h=>h) And.left,doneE _ _ g1⟩
end AF
namespace RC
theorem qnG(n:Nat)(L:List Str):zT n (strs L)=true:=rfl
end RC
end
section
open Go Go.Proofs AF HY LN
namespace AF
theorem Wk.ownNil{t:List AV}{h:List AObj}{j v i k ve sz:Nat}{ty:TypeId}{cs:List AV}(hj:getO j h=some (.mem v ty cs))(hi:cs[i]? =some .nl)(hk:getO k h=some (.emp ve)):
  Wk t h t (setO j h (.mem v ty (cs.set i (.osl k ve sz 0 0)))):=by
 intro N w σ a H;have hjl:j<σ.length:=by rw[H.hr.len];exact zp hj
 have hkl:k<σ.length:=by rw[H.hr.len];exact zp hk
 have ho:=zY hjl;have hok:=zY hkl;obtain⟨e1,e2⟩:=H.hr.obj k _ _ hk hok;obtain⟨m1,m2,b,arr,m3,m4,m5,m6,m7,m8⟩:=H.hr.obj j _ _ hj ho;have q:=H.hr.recell (cs':=cs.set i (.osl k ve sz 0 0)) hj ho m3 m4 m5 (by simpa using m6) (fun n x hn hx=>m7 n x (by simpa using hn) hx) (fun n c x hn hx=>by
  rw[List.getElem?_set]at hn;split at hn
  ·rename_i e;subst e;split at hn
   ·cases hn;have hv:=m8 i _ x hi hx;cases hv with
    |imm hv=>
     cases hv;exact .osl _ hok ⟨none,0,0,rfl⟩ (Nat.le_of_eq e1.symm) (fun _=> .inl ⟨e2,rfl,rfl,rfl⟩)
   ·cases hn
  ·exact m8 n c x hn hx)
 exact⟨σ,⟨q,H.sz,H.tm,H.df⟩,Ext.refl _ _⟩
end AF
namespace RC
structure qzH (t:List Str) (L:List En):Prop where
 rg: ∀i,i<L.length→0≤(L.getD i default).frm∧(L.getD i default).frm≤(L.getD i default).to∧(L.getD i default).to≤t.length
 nx: ∀i,i+1<L.length→(L.getD i default).to≤(L.getD (i+1) default).frm
theorem qrM{names:List Str}{gs:List Gr}{l:List En}{src:Int}{e:En}(h:e∈ofE names gs l src):e∈l:=(qeh l).subset (List.mem_filter.1 h).1
theorem qj0{L:List En}{i:Nat}(hi:i<L.length):L.getD i default∈L:=by
 rw[gdqA,zY hi];exact List.getElem_mem hi
theorem qsV.tx{names:List Str}{gs:List Gr}{t:List Str}{l:List En}(h:qsV names gs t l){s:Nat}(hs:s<names.length):qzH t (ofE names gs l (s:Int)):=
 ⟨fun i hi=>(qjm.1 (h.ck _ (qrM (qj0 hi)))).rng,fun i hi=>qmN (qai h.cl hs) hi⟩
end RC
end
section
open Go Go.Proofs AF HY LN
namespace RC
def qsq(L:List (List Str)):AV:= .sl L.length fun i=> [strs (L.getD i [])]
theorem qgU(L:List (List Str)):(qsq L).flag=true:=rfl
theorem qfg(L:List (List Str)):(qsq L).strip=qsq L:=rfl
attribute [go_sem] qgU qfg
theorem zD(L:List Str):(zM L).length=L.length:=by simp[zM]
theorem qbH(L M:List Str):zM (L++M)=zM L++zM M:=by simp[zM]
theorem qoA{L:List Str}:zM L= []↔L= []:=by simp[zM]
theorem qaQ{L:List Str}{n:Nat}(g:AV→AV)(hg: ∀s,g (.str s)= .str s)(hn:n=L.length):VLe (.sl n fun i=>(((zM L).drop i).take 1).map g) (strs L):=by
 subst hn;refine VLe.sl_eq rfl (fun i hi=> ?_);unfold zM;rw[←List.map_drop,List.drop_eq_getElem_cons hi,List.map_cons,List.take_succ_cons,List.take_zero,List.map_cons,List.map_nil,hg,gdqA,zY hi];rfl
theorem qnd{α β:Type}(f:α→β)(L:List α):L.flatMap (fun i=> [f i])=L.map f:=by
 induction L with
 |nil=>rfl
 |cons a L ih=>rw[List.flatMap_cons,ih];rfl
theorem qlw(h:List AObj){t:List Str}{a b:Nat}(h1:a≤b)(h2:b≤t.length):qo h (.sl (b-a) fun i=> [.str (t.getD (a+i) [])])=some (b-a,zM (qmi t a b)):=by
 show some (b-a,(List.range (b-a)).flatMap fun i=> [AV.str (t.getD (a+i) [])])=_;rw[qnd (fun i=>AV.str (t.getD (a+i) []))];congr 2;unfold zM qmi;apply List.ext_getElem
 ·simp;omega
 ·intro i g1 g2;have hi:i<b-a:=by simpa using g1
  have hl:a+i<t.length:=by omega
  simp[gdqA,hl]
theorem qoy(h:List AObj)(t:List Str):qo h (strs t)=some (t.length,zM t):=by
 have:=qlw h (t:=t) (a:=0) (b:=t.length) (nzl _) (nlr _)
 simp only[Nat.sub_zero,Nat.zero_add]at this;have e:qmi t 0 t.length=t:=by simp[qmi]
 rw[e]at this;exact this
end RC
end
section
open Go Go.Proofs AF HY LN
namespace AF
theorem qR{P:Program}{f:FuncId}{first cap args:List AV}{d:Option Nat}{nx:Nx}{t:List AV}{h h':List AObj}{r:AV}(hc:ACalls P f (first++args++cap) h r h')(hn:nx (qM t d r) h'):qaX P (.fn (.func f) first cap::args) d nx t h:=⟨r,h',hc,hn⟩
theorem qbD{v:Nat}{ty:TypeId}{cs:List AV}{n:Nat}(h: ∀c∈cs,zT n c=true):kT n (jL v ty cs):=by
 unfold jL;split
 ·trivial
 ·exact h
end AF
namespace RC
theorem qhu(L:List Str):(strs L).solid=true:=rfl
theorem qgE(L:List Str):(strs L).cells= [strs L]:=rfl
theorem qex{k v z p n:Nat}(L:List Str):qbK (.osl k v z p n) (strs L)=true:=rfl
attribute [go_sem] qhu qgE qex
theorem qgj(L:List Str)(n:Nat): ∀c∈zM L,zT n c=true:=by
 intro c hc;unfold zM at hc;obtain⟨x,_,rfl⟩:=List.mem_map.1 hc;rfl
theorem qdd{v:Nat}{L:List Str}{g:AV→AV}{n:Nat}(hg: ∀s,g (.str s)= .str s)(hn:n=L.length):VLe (qlh (some (jL v 9 (zM L))) v 1 0 n g) (strs L):=by
 subst hn
 by_cases h:L= []
 ·subst h;show VLe (qlh (some (.emp v)) v 1 0 0 g) _;rw[slOf_emp,ipo rfl];exact qbI
 ·have e0:jL v 9 (zM L)= .mem v 9 (zM L):=kr (fun e=>h (qoA.1 e));rw[e0,slOf_mem,ipo ⟨rfl,by rw[zD];omega⟩];simp only[Nat.zero_add,Nat.mul_one];exact qaQ g hg rfl
end RC
end
section
open Go Go.Proofs AF HY RC LN
namespace HY
def qep(v:Nat)(s:List UInt8):AObj:=if s= [] then .emp v else .mem v 5 (bytesA s)
theorem qfC(v:Nat):qep v []= .emp v:=rfl
theorem qeA{s:List UInt8}(h:s≠ [])(v:Nat):qep v s= .mem v 5 (bytesA s):=ine h
theorem qgv(s u:List UInt8):bytesA (s++u)=bytesA s++bytesA u:=by simp[bytesA]
theorem qgw(s:List UInt8)(n:Nat): ∀c∈bytesA s,zT n c=true:=by
 intro c hc;unfold bytesA at hc;rw[List.mem_map]at hc;obtain⟨a,_,rfl⟩:=hc;rfl
theorem qmz(v:Nat)(s:List UInt8)(n:Nat):kT n (qep v s):=by
 unfold qep;split
 ·trivial
 ·exact qgw s n
theorem qez{kb kj:Nat}{h:List AObj}{X Y Z:AObj}(hne:kb≠kj):setO kb (setO kj (setO kb h X) Y) Z=setO kj (setO kb h Z) Y:=by
 rw[qle hne,qec]
theorem qp9(v:Nat)(u:List UInt8):(if u.length=0 then AObj.emp v else AObj.mem v 5 (bytesA u))=qep v u:=by
 unfold qep
 by_cases h:u= []
 ·simp[h]
 ·rw[ine h,ine (by simpa using h)]
theorem qdN(w:World)(g n:Nat):w.grownBy (w.drew.freeze ⟨g,0,none⟩ n) (some g):=by
 unfold World.freeze;split
 ·exact⟨rfl,rfl,rfl,nlr _,fun _ _ _=>rfl⟩
 ·refine⟨rfl,rfl,rfl,?_,fun k hk hne=> ?_⟩
  ·show w.heap.size≤(w.heap.modify g _).size;rw[Array.size_modify];exact nlr _
  ·have:g≠k:=fun e=>hne (by rw[e])
   show (w.heap.modify g _)[k]? =w.heap[k]?;rw[Array.getElem?_modify,ine this]
theorem qhj{p:Program}{fits:TypeId→Bool}{e:TypeId}{c c' off n:Nat}(hc:c≤c'): ∀d,rowAt p fits d e c off n=true→rowAt p fits d e c' off n=true:=by
 intro d;cases d with
 |zero=>exact id
 |succ d=>
  unfold rowAt;simp only;split
  ·exact id
  ·intro h;rw[Bool.or_eq_true]at h ⊢;rcases h with h|h
   ·refine .inl ?_;simp only[Bool.and_eq_true,decide_eq_true_iff]at h ⊢;exact⟨⟨h.1.1,om⟩,h.2⟩
   ·refine .inr ?_;rw[Bool.and_eq_true]at h ⊢;exact⟨by simp only[decide_eq_true_iff]at h ⊢;omega,h.2⟩
theorem qeT{p:Program}{e u:TypeId}{c c' off n:Nat}(hc:c≤c'): ∀d,liesAt p d e c off u n=true→liesAt p d e c' off u n=true:=by
 intro d
 induction d generalizing u n with
 |zero=>exact id
 |succ d ih=>
  unfold liesAt;intro h;rw[Bool.or_eq_true]at h ⊢;rcases h with h|h
  ·exact .inl (qhj hc _ h)
  ·refine .inr ?_;split at h
   ·exact ih h
   ·cases h
theorem qyA(n:Nat)(hn:2≤n):liesAt Tryz.prog Tryz.prog.depth 132 (n/Tryz.prog.cellsOf 132) 0 130 1=true:=by
 have e1:Tryz.prog.cellsOf 132=2:=by kernel_rfl
 have h1:liesAt Tryz.prog Tryz.prog.depth 132 1 0 130 1=true:=by kernel_rfl
 rw[e1];exact qeT om _ h1
theorem ccB(kb vb:Nat)(A B:AV)(h:List AObj)(hk:getO kb h=some (.mem vb 132 [A,B]))(hA:A= .nilp∨A= .op kb vb 0):ACalls Tryz.prog 212 [.op kb vb 0] h (.tup []) (setO kb h (.mem vb 132 [.op kb vb 0,B])):=by
 refine⟨qpE Tryz.func212 (by kernel_rfl) (by kernel_rfl),fun w σ xs H hv=> ?_⟩;obtain⟨x,rfl,hx⟩:=hv.one;have hc:=qN hk;obtain⟨cs,o,b,arr,g1,rfl,g2,g3,g4,g5,g6,g7,g9,g8⟩:=kq H hx (by rw[hc];rfl);rw[hc]at g1;cases g1;have hobj:=H.obj kb _ o hk g2;obtain⟨_,hty,_⟩:=hobj;rw[hty]at g5;have g5b:=g5;have g5:=g5.plain (by decide);have hsz:2≤arr.size:=g7;have hc0:w.cell? ⟨b,0,none⟩=some arr[0]:=by rw[kk g5b];simp
 have hA0:=g8 0 A arr[0] rfl (by simp);have hsh:w.shape? b=some (132,arr.size):=by simp[World.shape?,g5]
 have hfz:w.frozen? ⟨b,0,none⟩=false:=by simp[World.frozen?,g5]
 have hkl:=zp hk;rcases hA with rfl|rfl
 ·rw[qfr hA0]at hc0;refine (callsIn_wide.2 (qmG b 0 132 arr.size w hc0 om hsh hfz (qyA _ hsz))).mono ?_;rintro e w' ⟨rfl,rfl⟩;have hg:w.grownBy (w.setCell ⟨b,0,none⟩ (.pointer (some ⟨b,0,none⟩))) o.blk:=by rw[g4];exact grownBy_setCell' w b _
  have hh:=heap_setCell_same w b 0 arr 132 (.pointer (some ⟨b,0,none⟩)) g5;obtain⟨u1,u2⟩:=H.update (o':=o) (a':= .mem vb 132 [.op kb vb 0,B]) g2 hg (nlr _) (fun _=>rfl)
   (by intro b' e;rw[g4]at e;cases e;exact⟨.inl g4,(Array.getElem?_eq_some_iff.1 hh).1⟩) (fun b' r e hr=>by rw[g4]at e;cases e;rw[g5]at hr;cases hr)
   (fun e=>⟨g3,hty,b,_,g4,by rw[hty];exact .mk hh,by simp[g6],by simp;exact hsz,fun i y hi hy=>by
    simp only[Array.getElem?_setIfInBounds]at hy;split at hy
    ·split at hy
     ·cases hy;rfl
     ·cases hy
    ·exact g9 i y (by simpa using hi) hy,fun i c y hc hy=>by
    simp only[Array.getElem?_setIfInBounds]at hy;split at hy
    ·rename_i e0;split at hy
     ·cases hy;subst e0;simp at hc;subst hc;have hko:(σ.set kb o)[kb]? =some o:=by rw[List.getElem?_set_self (by rw[H.len];exact hkl)]
      exact .op o hko ⟨_,rfl⟩ om (fun _=>⟨b,g4,rfl⟩)
     ·cases hy
    ·rename_i e0;have hne:i≠0:=fun e1=>e0 e1.symm
     have hcs: [.op kb vb 0,B]= [.nilp,B].set 0 (.op kb vb 0):=rfl;rw[hcs,List.getElem?_set_ne (fun e1=>hne e1.symm)]at hc
     exact (g8 i c y hc hy).ext e⟩)
  exact⟨_,_,rfl,u1,.imm (.tup rfl (fun i c x hc=>by simp at hc)),u2⟩
 ·obtain⟨o',q1,q2,q3⟩:=qwQ hA0;rw[g2]at q1;cases q1;obtain⟨b',q4,q5⟩:=q3 g3;rw[g4]at q4;cases q4;rw[q5]at hc0;refine (callsIn_wide.2 (qqB b 0 w hc0)).mono ?_;rintro e w' ⟨rfl,rfl⟩;rw[setO_same hk];exact⟨_,σ,rfl,H,.imm (.tup rfl (fun i c x hc=>by simp at hc)),Ext.refl w' σ⟩
theorem qcR{kb vb kj v m:Nat}{h:List AObj}{s:List UInt8}(hkl:kb<h.length)(hjl:kj<h.length): ∀o∈setO kj (setO kb h (.mem vb 132 [.op kb vb 0,.osl kj v 1 0 m])) (qep v s),o∈h∨kT h.length o:=by
 intro o ho;rcases qc1 ho with h1|rfl
 ·rcases qc1 h1 with h2|rfl
  ·exact .inl h2
  ·right;intro c hc;simp only[List.mem_cons,List.not_mem_nil,or_false]at hc;rcases hc with rfl|rfl
   ·simpa[zT] using hkl
   ·simpa[zT] using hjl
 ·exact .inr (qmz v s _)
theorem qAO(kb vb kj v:Nat)(A:AV)(s u:List UInt8)(h:List AObj)(hne:kj≠kb)(hk:getO kb h=some (.mem vb 132 [A,.osl kj v 1 0 s.length]))(hA:A= .nilp∨A= .op kb vb 0)(hj:getO kj h=some (qep v s))(hl:s.length+u.length≤140737488355328):
  ACalls Tryz.prog 155 [.op kb vb 0,.str u] h (.tup [.int .i64 u.length,.nilif]) (setO kj (setO kb h (.mem vb 132 [.op kb vb 0,.osl kj (v+1) 1 0 (s.length+u.length)])) (qep (v+1) (s++u))):=by
 have hkl:=zp hk;have hjl:=zp hj;have hne':kb≠kj:=fun e=>hne e.symm
 have hk1: ∀l,getO kb (h++l)=some (.mem vb 132 [A,.osl kj v 1 0 s.length]):=fun l=>by rw[jC hkl,hk]
 refine acO quU ?_;simp (disch:=omega) only[qtA,go_sem];refine qZ (ccB kb vb A _ _ (hk1 _) hA) ⟨rfl,trivial⟩ ?_
 by_cases hs:s= []
 ·subst hs;rw[qfC]at hj;simp (disch:=omega) only[qaO,jY,zK,qj1,qj2,qlc,qld,jc,qaE,jb,qg4,hj,go_sem];refine⟨om,⟨by simp,by simp at hl;omega⟩,?_⟩;rw[qez hne',qp9];refine qeM ⟨trivial,trivial,trivial⟩ (by simp only[zA]) (qcR hkl hjl) ⟨rfl,?_⟩ (qi);simp
 ·rw[qeA hs]at hj;simp (disch:=omega) only[qaO,jY,zK,qj1,qj2,qlc,qld,jc,qaE,jb,qa0,hj,bytesA_len,go_sem]
  repeat' first
   |(with_reducible apply aiA)
  all_goals first
   |omega
   |(simp[bytesA_len];done)
   |skip
  rw[qez hne',ltl (by simp[bytesA_len]),←qgv,←qeA (by simp[hs])];exact qeM ⟨trivial,trivial,trivial⟩ (by simp only[zA]) (qcR hkl hjl) ⟨rfl,rfl⟩ (qi)
theorem qpQ(kb vb kj v:Nat)(A:AV)(s:List UInt8)(h:List AObj)(hne:kj≠kb)(hk:getO kb h=some (.mem vb 132 [A,.osl kj v 1 0 s.length]))(hj:getO kj h=some (qep v s)):
  ACalls Tryz.prog 87 [.op kb vb 0] h (.str s) (setO kj h (.emp (v+1))):=by
 refine⟨qpE Tryz.func87 (by kernel_rfl) (by kernel_rfl),fun w σ xs H hv=> ?_⟩;obtain⟨x,rfl,hx⟩:=hv.one;have hc:=qN hk;obtain⟨cs,o,b,arr,g1,rfl,g2,g3,g4,g5,g6,g7,g9,g8⟩:=kq H hx (by rw[hc];rfl);rw[hc]at g1;cases g1;have hty:=(H.obj kb _ o hk g2).2.1;rw[hty]at g5;have g5b:=g5;have g5:=g5.plain (by decide);have hsz:2≤arr.size:=g7;have hc1:w.cell? ⟨b,0+1,none⟩=some arr[0+1]:=by rw[kk g5b];simp
 have hB:=g8 (0+1) _ arr[0+1] rfl (by simp);obtain⟨oj,j1,j2,j3⟩:=qgn hB;have hobj:=H.obj kj _ oj hj j1;have hkj:=zp hj
 by_cases hs:s= []
 ·subst hs;rw[qfC]at hj hobj;obtain⟨m1,m2⟩:=hobj;rcases j3 m1 with⟨_,_,_,e⟩|⟨b',cap,e,_⟩
  ·rw[e]at hc1;refine (callsIn_wide.2 (qoB b 0 w hc1)).mono ?_;rintro e w' ⟨rfl,rfl⟩;obtain⟨u1,u2⟩:=H.update (w':=w.drew) (o':= { oj with blk:=none,ver:=v+1 }) (a':= .emp (v+1)) j1 ⟨rfl,rfl,rfl,nlr _,fun _ _ _=>rfl⟩ (by simp only;omega) (by simp only;omega) (by intro b' e;cases e) (fun b' r e hr=>⟨r,hr⟩) (fun _=>⟨rfl,rfl⟩);exact⟨_,_,rfl,u1,.imm .str,u2⟩
  ·rw[m2]at e;cases e
 ·rw[qeA hs]at hj hobj;obtain⟨m1,m2,bj,arrj,m3,m4,m5,m6,m7,m8⟩:=hobj;rcases j3 m1 with⟨e,_⟩|⟨b',cap,e1,e2,e3,e4,e5⟩
  ·rw[m3]at e;cases e
  ·rw[m3]at e1;cases e1;rw[e2]at hc1;rw[m2]at m4;have m4b:=m4;have m4:=m4.plain (by decide);rw[bytesA_len]at m6;refine (callsIn_wide.2 (qoC b 0 bj cap s arrj w hs hc1 m4 e3 e4 om (fun j x hx=> ?_))).mono ?_
   ·have hjl:j<s.length:=(lgs.1 hx).1;rw[kk m4b];have ea:arrj[j]? =some arrj[j]:=by simp
    have:=m8 j (.int .u8 x.toNat) arrj[j] (by simp[bytesA,hx]) ea
    rw[ea,qU this]
   ·rintro e w' ⟨rfl,rfl⟩;have hg:w.grownBy (w.drew.freeze ⟨bj,0,none⟩ s.length) oj.blk:=by
     rw[m3];exact qdN w bj s.length
    obtain⟨u1,u2⟩:=H.update (o':= { oj with blk:=none,ver:=v+1 }) (a':= .emp (v+1)) j1 hg (by simp only;omega) (by simp only;omega) (by intro b' e;cases e)
     (fun b' r e hr=>by rw[m3]at e;cases e;rw[m4]at hr;cases hr) (fun _=>⟨rfl,rfl⟩)
    exact⟨_,_,rfl,u1,.imm .str,u2⟩
end HY
end
section
open Go Go.Proofs AF
def qru:List Nat:= [155,83]
def qzp:C:=
 ((C.ops [MV 6 1,O1 7 .len 6,MC 8 (i6 0)]).seq (C.block 0 ((C.ops [BI 9 .lss 8 7]).seq ((C.cond (.t 9) C.skip (C.exit 0)).seq ((C.block 1 ((C.ops [O2 10 (.idxA 1) 6 8,LD 11 10,
 MV 5 11]).seq (C.ops [MV 12 0,O1 13 .nilchk 12,O1 14 (.fldA 0) 13,MV 15 5,O2 16 (.call 155 false) 14 15]))).seq (C.ops [BC 17 .add 8 (i6 1),MV 8
 17])))).loop))
theorem qyo:qH Tryz.prog 83 18 0 [] qzp:=fi Tryz.f83 [] qru []
end
section
open Go Go.Proofs AF HY LN
namespace RC
def wrO(kb vb kj v:Nat)(A:AV)(s:Str)(h:List AObj):List AObj:=setO kj (setO kb h (.mem vb 132 [A,.osl kj v 1 0 s.length])) (qep v s)
theorem qsU{kb vb kj v:Nat}{A:AV}{s:Str}{h:List AObj}(hk:getO kb h=some (.mem vb 132 [A,.osl kj v 1 0 s.length]))(hj:getO kj h=some (qep v s)):wrO kb vb kj v A s h=h:=by
 unfold wrO;rw[setO_same hk,setO_same hj]
theorem qze{kb vb kj v:Nat}{A:AV}{s:Str}{h:List AObj}(hne:kj≠kb)(hk:kb<h.length):getO kb (wrO kb vb kj v A s h)=some (.mem vb 132 [A,.osl kj v 1 0 s.length]):=by
 unfold wrO;rw[zK (fun e=>hne e.symm),jY hk]
theorem qzf{kb vb kj v:Nat}{A:AV}{s:Str}{h:List AObj}(hj:kj<h.length):getO kj (wrO kb vb kj v A s h)=some (qep v s):=by
 unfold wrO;rw[jY (by rw[zA];exact hj)]
theorem qzg{kb vb kj v v':Nat}{A A':AV}{s s':Str}{h:List AObj}(hne:kj≠kb):setO kj (setO kb (wrO kb vb kj v A s h) (.mem vb 132 [A',.osl kj v' 1 0 s'.length])) (qep v' s')=wrO kb vb kj v' A' s' h:=by
 unfold wrO;rw[qez (fun e=>hne e.symm),qec]
theorem qxy{kb vb kj v:Nat}{h:List AObj}{s:Str}(hkl:kb<h.length)(hjl:kj<h.length): ∀o∈wrO kb vb kj v (.op kb vb 0) s h,o∈h∨kT h.length o:=qcR hkl hjl
end RC
end
section
namespace Go.Proofs
open Go.Shelf
def Tryz.laysJ156_ren:Go.Shelf.Ren:=⟨fun|156=>85|165=>157|166=>155|169=>87|240=>212|241=>213|276=>260|277=>261|n=>n,fun|31=>22|9=>9|3=>3|4=>4|0=>0|20=>20|72=>130|76=>193|70=>127|37=>128|75=>192|127=>197|164=>265|5=>5|80=>137|n=>n,fun|n=>n⟩
theorem Tryz.laysJ156:Go.Proofs.Lays.n156 Tryz.prog Tryz.laysJ156_ren:= {
 mixed:=by kernel_rfl
 f156:=Tryz.func85.trans (congrArg some (by kernel_rfl))
 f165:=Tryz.func157.trans (congrArg some (by kernel_rfl))
 f166:=Tryz.func155.trans (congrArg some (by kernel_rfl))
 f169:=Tryz.func87.trans (congrArg some (by kernel_rfl))
 f240:=Tryz.func212.trans (congrArg some (by kernel_rfl))
 f241:=Tryz.func213.trans (congrArg some (by kernel_rfl))
 f276:=Tryz.func260.trans (congrArg some (by kernel_rfl))
 f277:=Tryz.func261.trans (congrArg some (by kernel_rfl))
 t0:=Tryz.underlying0
 a0:=Tryz.isAgg0
 z0:=Tryz.sizeOf0
 v0:=Tryz.zeroValue0
 t3:=Tryz.underlying3
 a3:=Tryz.isAgg3
 z3:=Tryz.sizeOf3
 v3:=Tryz.zeroValue3
 t4:=Tryz.underlying4
 a4:=Tryz.isAgg4
 z4:=Tryz.sizeOf4
 v4:=Tryz.zeroValue4
 t9:=Tryz.underlying9
 a9:=Tryz.isAgg9
 z9:=Tryz.sizeOf9
 v9:=Tryz.zeroValue9
 t20:=Tryz.underlying20
 a20:=Tryz.isAgg20
 z20:=Tryz.sizeOf20
 v20:=Tryz.zeroValue20
 t31:=Tryz.underlying22
 a31:=Tryz.isAgg22
 z31:=Tryz.sizeOf22
 v31:=Tryz.zeroValue22
 t37:=Tryz.underlying128
 a37:=Tryz.isAgg128
 z37:=Tryz.sizeOf128
 v37:=Tryz.zeroValue128
 t70:=Tryz.underlying127
 a70:=Tryz.isAgg127
 z70:=Tryz.sizeOf127
 v70:=Tryz.zeroValue127
 t72:=Tryz.underlying130
 a72:=Tryz.isAgg130
 z72:=Tryz.sizeOf130
 v72:=Tryz.zeroValue130
 t75:=Tryz.underlying192
 a75:=Tryz.isAgg192
 z75:=Tryz.sizeOf192
 v75:=Tryz.zeroValue192
 t76:=Tryz.underlying193
 a76:=Tryz.isAgg193
 z76:=Tryz.sizeOf193
 v76:=Tryz.zeroValue193
 t127:=Tryz.underlying197
 a127:=Tryz.isAgg197
 z127:=Tryz.sizeOf197
 v127:=Tryz.zeroValue197
 t164:=Tryz.underlying265
 a164:=Tryz.isAgg265
 z164:=Tryz.sizeOf265
 v164:=Tryz.zeroValue265 }
end Go.Proofs
end
section
open Go Go.Proofs AF HY LN
namespace RC
theorem kW(kb vb kj v ka va:Nat)(A:AV)(s:Str)(L:List Str)(h:List AObj)(hne:kj≠kb)(na:ka≠kb)(nj:ka≠kj)(ha:getO ka h=some (.mem va 9 (zM L)))(hk:getO kb h=some (.mem vb 132 [A,.osl kj v 1 0 s.length]))(hA:A= .nilp∨A= .op kb vb 0)(hj:getO kj h=some (qep v s))
  (hL:L≠ []) (hLn:L.length≤1000000) (hl:s.length+L.flatten.length≤140737488355328):
  ACalls Tryz.prog 83 [.op kb vb 0,.osl ka va 1 0 L.length] h (.tup []) (wrO kb vb kj (v+L.length) (.op kb vb 0) (s++L.flatten) h):=by
 have hkl:=zp hk;have hjl:=zp hj;obtain⟨Af,hAf⟩: ∃Af:Nat→AV,Af=fun i=>if i=0 then A else .op kb vb 0:=⟨_,rfl⟩
 have hA2: ∀i,Af i= .nilp∨Af i= .op kb vb 0:=fun i=>by
  rw[hAf];simp only;split
  ·exact hA
  ·exact .inr rfl
 obtain⟨Sf,hSf⟩: ∃Sf:Nat→Str,Sf=fun i=>s++(L.take i).flatten:=⟨_,rfl⟩
 have h0:wrO kb vb kj (v+0) (Af 0) (Sf 0) h=h:=by
  rw[hAf,hSf];simp only[if_true,List.take_zero,List.flatten_nil,lan,Nat.add_zero];exact qsU hk hj
 have hSl: ∀i,(Sf i).length≤s.length+L.flatten.length:=fun i=>by
  rw[hSf];simp only[lap]
  have:(L.take i).flatten.length≤L.flatten.length:=by
   conv=>rhs;rw[←List.take_append_drop i L,List.flatten_append,lap]
   omega
  omega
 have hSs: ∀i,i<L.length→Sf (i+1)=Sf i++L.getD i []:=fun i hi=>by
  rw[hSf];simp only;rw[List.take_add_one,zY hi,List.flatten_append,gdqA,zY hi,List.append_assoc];simp
 have hga: ∀i,getO ka (wrO kb vb kj (v+i) (Af i) (Sf i) h)=some (.mem va 9 (zM L)):=fun i=>by
  unfold wrO;rw[zK nj,zK na];exact ha
 have hca:=fun i=>qN (hga i)
 have hlv:zO h ka va=true:=by unfold zO;rw[ha];simp
 have hlw: ∀i,zO (wrO kb vb kj (v+i) (Af i) (Sf i) h) ka va=true:=fun i=>by unfold zO;rw[hga i];simp
 have hcg: ∀i,i<L.length→(zM L)[i]? =some (.str (L.getD i [])):=fun i hi=>by
  unfold zM;rw[List.getElem?_map,zY hi,gdqA,zY hi];rfl
 refine acO qyo ?_;simp (disch:=omega) only[qzp,hlv,go_sem];have hfin:Af L.length= .op kb vb 0:=by
  rw[hAf];simp only;rw[ine (fun e=>hL (List.eq_nil_of_length_eq_zero e))]
 have hfs:Sf L.length=s++L.flatten:=by rw[hSf];simp only[List.take_length]
 have hge:wrO kb vb kj (v+L.length) (.op kb vb 0) (s++L.flatten) h=wrO kb vb kj (v+L.length) (Af L.length) (Sf L.length) h:=by rw[hfin,hfs]
 rw[hge];refine qn (T:=fun i:Nat=>qP 18 [(0,.op kb vb 0),(6,.osl ka va 1 0 L.length),(7,.int .i64 L.length),(8,.int .i64 i)]) (H:=fun i=>wrO kb vb kj (v+i) (Af i) (Sf i) h) (inv:=fun i=>i≤L.length) (m:=fun i=>L.length-i) 0 (nzl _) ?s0 ?_
 case s0=>
  rw[h0];refine Wk.temps ?_
  (simp only[go_sem,qf,qc,qa,qe];try (repeat' first|(with_reducible apply aiA)|(apply qg;omega)|(apply qd;rfl)|exact qi))
 rintro i i1 K hK;have hsl:=hSl i
 by_cases hi:i<L.length
 ·have k1:((i:Int)<L.length)=True:=eqt om;have k0:(0≤(i:Int))=True:=eqt om;have hs1:=hSs i hi;have hsl1:=hSl (i+1);have gk:=qze (vb:=vb) (v:=v+i) (A:=Af i) (s:=Sf i) (h:=h) hne hkl;have gj:=qzf (kb:=kb) (vb:=vb) (v:=v+i) (A:=Af i) (s:=Sf i) (h:=h) hjl;obtain⟨w,hw⟩: ∃w,w=L.getD i []:=⟨_,rfl⟩
  have ew:=hw.symm;rw[ew]at hs1;have hc:=qAO kb vb kj (v+i) (Af i) (Sf i) w _ hne gk (hA2 i) gj (by rw[hs1,lap]at hsl1;omega);have hAi:Af (i+1)= .op kb vb 0:=by rw[hAf];rfl
  have hlen:((Sf i).length+w.length)=(Sf (i+1)).length:=by rw[hs1,lap]
  have hr:wrO kb vb kj (v+i+1) (.op kb vb 0) (Sf (i+1)) h=wrO kb vb kj (v+(i+1)) (Af (i+1)) (Sf (i+1)) h:=by rw[hAi];rfl
  rw[←hs1,hlen,qzg hne,hr]at hc;have hcell:=qN gk;have hcA:=hca i;have hcG:=hcg i hi;have hLv:=hlw i;have eCl:=zD L;rw[ew]at hcG;simp (disch:=omega) only[k0,k1,hcA,hcG,hcell,go_sem]
  repeat' first
   |with_reducible apply aiA
  all_goals try exact clz
  refine qZ hc (by exact flk) ?_;simp (disch:=omega) only[go_sem];refine hK _ _ (i+1) hi om (Wk.temps ?_)
  (simp only[go_sem,qf,qc,qa,qe];try (repeat' first|(with_reducible apply aiA)|(apply qg;omega)|(apply qd;rfl)|exact qi))
 have k1:((i:Int)<L.length)=False:=eqf om;obtain rfl:i=L.length:=by omega
 simp (disch:=omega) only[k1,go_sem];rw[hfin];exact kR trivial (by unfold wrO;simp only[zA]) (qxy hkl hjl) ⟨rfl,rfl⟩ (qi)
theorem Tryz.joinX:Builder.Extra Tryz.prog Tryz.laysJ156_ren:= {
 sizeBuilder:=by kernel_rfl
 liesBuilder:=by kernel_rfl
 t5:=Tryz.underlying5
 a5:=Tryz.isAgg5
 z5:=Tryz.sizeOf5
 v5:=Tryz.zeroValue5
 infoByte:=by kernel_rfl
 cellsByte:=by kernel_rfl
 sizeByte:=by kernel_rfl
 neB5:=by decide }
theorem qux(l:List UInt8):(ByteArray.mk l.toArray).data.toList=l:=by simp
theorem joP(L:List Str)(sep:Str)(h:List AObj)(hl:(Lib.join L sep).length≤1000000000)(hn:L.length≤1000000000):ACalls Tryz.prog 85 [strs L,.str sep] h (.str (Lib.join L sep)) h:=by
 refine⟨qpE Tryz.func85 (by kernel_rfl) (by kernel_rfl),fun w σ xs H hv=> ?_⟩;obtain⟨x,y,rfl,hx,hy⟩:=hv.two;rw[zX hy];have hm:(L.map fun s=>ByteArray.mk s.toArray).map (·.data.toList)=L:=by
  rw[List.map_map];exact (List.map_congr_left (fun i _=>qux i)).trans (List.map_id _)
 have hd:(ByteArray.mk sep.toArray).data.toList=sep:=qux sep;have key:CallsIn Fence.wide 0 Tryz.prog 85 #[x,.string ⟨sep.toArray⟩] w fun e w'=>e= .returned (.string ⟨(Lib.join L sep).toArray⟩)∧Go.RowKit.Below w.heap.size w w':=by
  rcases qsA hx with⟨h0,a,rfl⟩|⟨b,off,cap,rfl,h1,h2,h3⟩
  ·obtain rfl:=List.eq_nil_of_length_eq_zero h0;refine (callsIn_wide.2 (Any.strings_Join_none Tryz.laysJ156 Tryz.joinX a 0 ⟨sep.toArray⟩ w)).mono ?_;rintro e w' ⟨rfl,rfl⟩;exact⟨rfl,Go.RowKit.Below.refl _ _⟩
  ·have hln:(L.map fun s=>ByteArray.mk s.toArray).length=L.length:=by simp
   have hc:=Any.strings_Join Tryz.laysJ156 Tryz.joinX b off cap (L.map fun s=>ByteArray.mk s.toArray) ⟨sep.toArray⟩ w (fun j x hj=>by
    rw[List.getElem?_map,Option.map_eq_some_iff]at hj;obtain⟨i,hi,rfl⟩:=hj;obtain⟨hlt,e⟩:=lgs.1 hi
    have:=h3 j hlt
    rw[this,gdqA,hi]
    rfl) h2 om om (by rw[hm,hd];omega)
   rw[hln,hm,hd]at hc;exact callsIn_wide.2 hc
 refine key.mono ?_;rintro e w' ⟨rfl,hb⟩;obtain⟨H',e'⟩:=Ext.ofBelow H hb;exact⟨_,σ,rfl,H',.imm .str,e'⟩
theorem joB{L:List Str}{sep:Str}{X:AV}{h:List AObj}(hv:qau ([X,.str sep].map (rei (fun _=>true) h 8)) [strs L,.str sep])(hl:(Lib.join L sep).length≤1000000000)(hn:L.length≤1000000000):ACalls Tryz.prog 85 [X,.str sep] h (.str (Lib.join L sep)) h:=
 ACalls.borrow ((joP L sep [] hl hn).le hv (qi)) rfl
end RC
end
