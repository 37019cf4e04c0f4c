import Derived.Test.YtgoandblgcjleaaGreatDoorK13
import Derived.Test.YtgoandblgcjleaaGreatDoorK3
import Derived.Test.YtgoandblgcjleaaGreatDoorK5
import Derived.Test.YtgoandblgcjleaaGreatDoorK8
import Derived.Test.YtgoandblgcjleaaGreatDoorProg
import Derived.Test.YtgoandblgcjleaaGreatDoorK12
import Derived.Test.YtgoandblgcjleaaGreatDoorK11
import Derived.Test.YtgoandblgcjleaaGreatDoorK10
set_option linter.all false
set_option linter.unusedSimpArgs false
set_option linter.unusedVariables false
set_option linter.unusedSectionVars false
set_option maxHeartbeats 64000000
set_option maxRecDepth 100000
section
open Go Go.Proofs AF HY LN
namespace RC
theorem qDf(tok:List (List Tk))(col:List (List Int))(h:List AObj)(hn:tok.length≤1000000000)(hc:col.length≤1000000000)(hl: ∀s,(tok.getD s []).length≤1000000000)(hm: ∀i,(col.getD i []).length≤1000000000):
  ACalls Tryz.prog 209 [qt tok,qu col] h (.bool (alB tok col)) h:=by
 have k0:(0≤(tok.length:Int))=True:=eqt (by omega);have k1:((tok.length:Int)≤9223372036854775807)=True:=eqt (by omega);obtain⟨R,hR⟩: ∃R,R=alB tok col:=⟨_,rfl⟩
 rw[←hR];refine acO qyq ?_;simp (disch:=omega) only[qwR,qt,qu,k0,go_sem]
 repeat' first
  |with_reducible apply aiA
 all_goals try exact clz
 all_goals try rw[Int.toNat_natCast]
 rw[qlJ,←qAZ (col:=col)];refine qp (T:=fun i:Nat=>qQ 76 [(0,qt tok),(5,.osl h.length 1 1 0 tok.length),(15,qu col),(16,.int .i64 col.length),(17,.int .i64 i)])
  (H:=fun i=>h++ [.mem 1 3 (gC (atA col i 0) tok.length)])
  (inv:=fun i=>i≤col.length∧ ∀j,j<i→qf0 tok col j=true) (m:=fun i=>col.length-i) 0 ⟨nzl _,fun j hj=>absurd hj (nnz j)⟩ (Wk.temps ?_) ?_
 ·(simp only[qt,qu,go_sem,qi,qe,qa,qh];try (repeat' first|(with_reducible apply aiA)|(apply qg;omega)|(apply qf;rfl)|exact qj))
 rintro i ⟨i1,i2⟩ K hK
 by_cases hi:i<col.length
 ·have k2:((i:Int)<col.length)=True:=eqt (by omega);have hno:qf0 tok col i=false→R=false:=fun hx=>by rw[hR];exact qAW hi hx
  have hlen:= @qti tok col i;have hen:= @qxA tok col i;have heq:= @qxB tok col i;have hskip:= @qoq col i;have hstep:= @qor col i;have hmi:=hm i;have hE: ∀s,enB tok col i s=(decide ((col.getD i []).getD s 0= -1)||(decide ((col.getD i []).getD s 0=(cnC col s i:Int))&&decide ((col.getD i []).getD s 0<((tok.getD s []).length:Int)))):=fun _=>rfl
  obtain⟨c,hcx⟩: ∃c,c=col.getD i []:=⟨_,rfl⟩
  have ec:=hcx.symm;rw[ec]at hlen heq hmi;simp only[ec]at hskip hstep hE
  by_cases g1:c.length=tok.length
  case neg=>
   have k3:((c.length:Int)=tok.length)=False:=eqf (by omega);rw[hno (hlen g1)];simp (disch:=omega) only[qt,qu,qn,k2,k3,ec,go_sem]
   repeat' first
    |(apply qb;exact rvk;simp only[go_sem];exact qj)
    |with_reducible apply aiA
   all_goals try exact clz
  have k3:((c.length:Int)=tok.length)=True:=eqt (by omega);have heq:=heq g1;simp (disch:=omega) only[qt,qu,qn,k2,k3,ec,go_sem]
  repeat' first
   |with_reducible apply aiA
  all_goals try exact clz
  refine qp (T:=fun s:Nat=>qQ 76 [(0,qt tok),(5,.osl h.length 1 1 0 tok.length),(8,.bool (qZ (fun s=> !decide (c.getD s 0= -1)) s)),(15,qu col),(16,.int .i64 col.length),(17,.int .i64 i),(26,qn c),(27,.int .i64 c.length),(28,.int .i64 s)])
   (H:=fun s=>h++ [.mem 1 3 (gC (atA col i s) tok.length)])
   (inv:=fun s=>s≤c.length∧ ∀j,j<s→enB tok col i j=true) (m:=fun s=>c.length-s) 0 ⟨nzl _,fun j hj=>absurd hj (nnz j)⟩ (Wk.temps ?_) ?_
  ·(simp only[qt,qu,qn,go_sem,qi,qe,qa,qh];try (repeat' first|(with_reducible apply aiA)|(apply qg;omega)|(apply qf;rfl)|exact qj))
  rintro s ⟨s1,s2⟩ K2 hK2
  by_cases hs:s<c.length
  ·have t1:((s:Int)<c.length)=True:=eqt (by omega);have t0:(0≤(s:Int))=True:=eqt (by omega);have hsn:s<tok.length:=by omega
   have t2:((s:Int)<tok.length)=True:=eqt (by omega);have t3:(s<tok.length)=True:=eqt hsn;have t4:(s+1≤tok.length)=True:=eqt hsn;have gl:=qax (atA col i s) tok.length;have gg:=qcU (g:=atA col i s) hsn;rw[qwp]at gg;have hsk:=hskip (s:=s) (n:=tok.length);have hst:=hstep (s:=s) hsn;have hcn:= @qxz col s i;have hlt:=hl s;have hEs:=hE s;have hap:=qjF (fun s=> !decide (c.getD s 0= -1)) s;obtain⟨t,ht⟩: ∃t,t=c.getD s 0:=⟨_,rfl⟩
   obtain⟨l,hlx⟩: ∃l,l=tok.getD s []:=⟨_,rfl⟩
   have et:=ht.symm;have el:=hlx.symm;rw[et]at hsk hst hEs;rw[el]at hEs hlt;simp only[et]at hap;obtain⟨a,ha⟩: ∃a,a=qZ (fun s=> !decide (c.getD s 0= -1)) s:=⟨_,rfl⟩
   have ea:=ha.symm;rw[ea]at hap;obtain⟨q,hq⟩: ∃q:Nat,q=cnC col s i:=⟨_,rfl⟩
   have eq:=hq.symm;rw[eq]at hst hEs hcn gg;have b2:((q:Int)+1≤9223372036854775807)=True:=eqt (by omega);have b3:(-9223372036854775808≤(q:Int)+1)=True:=eqt (by omega)
   by_cases g2:t= -1
   ·have k4:(t= -1)=True:=eqt g2;rw[dqt g2,Bool.true_or]at hEs;have hap':qZ (fun s=> !decide (c.getD s 0= -1)) (s+1)=a:=by rw[hap,dqt g2];simp
    simp (disch:=omega) only[qt,qu,qn,t0,t1,t2,t3,k4,et,ea,gl,gg,Nat.mul_one,Nat.zero_add,go_sem]
    repeat' first
     |with_reducible apply aiA
    all_goals try exact clz
    rw[hsk g2];refine hK2 _ _ (s+1) ⟨hs,fun j hj=> ?_⟩ (by omega) (Wk.temps ?_)
    ·by_cases e:j=s
     ·subst e;exact hEs
     ·exact s2 j (by omega)
    ·rw[hap']
     (simp only[qt,qu,qn,go_sem,qi,qe,qa,qh];try (repeat' first|(with_reducible apply aiA)|(apply qg;omega)|(apply qf;rfl)|exact qj))
   have k4:(t= -1)=False:=eqf g2;rw[dqf g2,Bool.false_or]at hEs;have hap':qZ (fun s=> !decide (c.getD s 0= -1)) (s+1)=true:=by rw[hap,dqf g2];simp
   by_cases g3:t=(q:Int)
   case neg=>
    have k5:(t=(q:Int))=False:=eqf g3;rw[dqf g3,Bool.false_and]at hEs;rw[hno (hen hsn hEs)];simp (disch:=omega) only[qt,qu,qn,t0,t1,t2,t3,t4,k4,k5,et,ea,gl,gg,Nat.mul_one,Nat.zero_add,go_sem]
    repeat' first
     |(apply qb;exact rvk;simp only[go_sem];exact qj)
     |with_reducible apply aiA
    all_goals try exact clz
   have k5:(t=(q:Int))=True:=eqt g3;rw[dqt g3,Bool.true_and]at hEs
   by_cases g4:(l.length:Int)≤t
   ·have k6:((l.length:Int)≤t)=True:=eqt g4;rw[dqf (by omega)]at hEs;rw[hno (hen hsn hEs)];simp (disch:=omega) only[qt,jS,qu,qn,t0,t1,t2,t3,t4,k4,k5,k6,et,ea,el,gl,gg,Nat.mul_one,Nat.zero_add,go_sem]
    repeat' first
     |(apply qb;exact rvk;simp only[go_sem];exact qj)
     |with_reducible apply aiA
    all_goals try exact clz
   ·have k6:((l.length:Int)≤t)=False:=eqf g4;rw[dqt (by omega)]at hEs;have hst:=hst g2;simp (disch:=omega) only[qt,jS,qu,qn,t0,t1,t2,t3,t4,k4,k5,k6,et,ea,el,gl,gg,hst,Nat.mul_one,Nat.zero_add,Option.isSome_some,go_sem]
    repeat' first
     |with_reducible apply aiA
    all_goals try exact clz
    try rw[hst]
    refine hK2 _ _ (s+1) ⟨hs,fun j hj=> ?_⟩ (by omega) (Wk.temps ?_)
    ·by_cases e:j=s
     ·subst e;exact hEs
     ·exact s2 j (by omega)
    ·rw[hap']
     (simp only[qt,jS,qu,qn,go_sem,qi,qe,qa,qh];try (repeat' first|(with_reducible apply aiA)|(apply qg;omega)|(apply qf;rfl)|exact qj))
  ·have t1:((s:Int)<c.length)=False:=eqf (by omega);have es:s=tok.length:=by omega
   have heq:=heq fun j hj=>s2 j (by omega)
   rw[←es]at heq;rw[es]at*;cases ga:qZ (fun s=> !decide (c.getD s 0= -1)) tok.length with
   |false=>
    rw[ga]at heq;rw[hno heq];simp (disch:=omega) only[qt,qu,qn,go_sem]
    repeat' first
     |(apply qb;exact rvk;simp only[go_sem];exact qj)
     |with_reducible first|intro _|apply aiA
    all_goals try exact clz
   |true=>
    rw[ga]at heq;simp (disch:=omega) only[qt,qu,qn,go_sem]
    repeat' first
     |with_reducible first|intro _|apply aiA
    all_goals try exact clz
    rw[qsr];refine hK _ _ (i+1) ⟨hi,fun j hj=> ?_⟩ (by omega) (Wk.temps ?_)
    ·by_cases e:j=i
     ·subst e;exact heq
     ·exact i2 j (by omega)
    ·(simp only[qt,qu,qn,go_sem,qi,qe,qa,qh];try (repeat' first|(with_reducible apply aiA)|(apply qg;omega)|(apply qf;rfl)|exact qj))
 have k2:((i:Int)<col.length)=False:=eqf (by omega);obtain rfl:i=col.length:=by omega
 clear hK;simp (disch:=omega) only[qt,qu,k2,go_sem];refine qp (T:=fun s:Nat=>qQ 76 [(0,qt tok),(5,.osl h.length 1 1 0 tok.length),(61,.int .i64 tok.length),(62,.int .i64 s)])
  (H:=fun _=>h++ [.mem 1 3 (gC (atA col col.length 0) tok.length)])
  (inv:=fun s=>s≤tok.length∧ ∀j,j<s→cnC col j col.length=(tok.getD j []).length) (m:=fun s=>tok.length-s) 0 ⟨nzl _,fun j hj=>absurd hj (nnz j)⟩ (Wk.temps ?_) ?_
 ·(simp only[qt,go_sem,qi,qe,qa,qh];try (repeat' first|(with_reducible apply aiA)|(apply qg;omega)|(apply qf;rfl)|exact qj))
 rintro s ⟨s1,s2⟩ K hK
 by_cases hs:s<tok.length
 ·have t1:((s:Int)<tok.length)=True:=eqt (by omega);have t0:(0≤(s:Int))=True:=eqt (by omega);have t3:(s<tok.length)=True:=eqt hs;have t4:(s+1≤tok.length)=True:=eqt hs;have gl:=qax (atA col col.length 0) tok.length;have gg:=qcU (g:=atA col col.length 0) hs;have e0:atA col col.length 0 s= .int .i64 (cnC col s col.length:Int):=by unfold atA;rw[ine (nnz _)]
  rw[e0]at gg;have hno:= @qwk tok col s hs;obtain⟨q,hq⟩: ∃q:Nat,q=cnC col s col.length:=⟨_,rfl⟩
  have eq:=hq.symm;have hs2:q=(tok.getD s []).length→cnC col s col.length=(tok.getD s []).length:=fun e=>by rw[←hq];exact e
  rw[eq]at gg hno;obtain⟨l,hlx⟩: ∃l,l=tok.getD s []:=⟨_,rfl⟩
  have el:=hlx.symm;rw[el]at hno hs2
  by_cases g:q=l.length
  ·have k5:((q:Int)=l.length)=True:=eqt (by omega);simp (disch:=omega) only[qt,jS,t0,t1,t3,k5,el,gl,gg,Nat.mul_one,Nat.zero_add,go_sem]
   repeat' first
    |with_reducible apply aiA
   all_goals try exact clz
   refine hK _ _ (s+1) ⟨hs,fun j hj=> ?_⟩ (by omega) (Wk.temps ?_)
   ·by_cases e:j=s
    ·subst e;rw[el];exact hs2 g
    ·exact s2 j (by omega)
   ·(simp only[qt,jS,go_sem,qi,qe,qa,qh];try (repeat' first|(with_reducible apply aiA)|(apply qg;omega)|(apply qf;rfl)|exact qj))
  ·have k5:((q:Int)=l.length)=False:=eqf (by omega);rw[hR,hno g];simp (disch:=omega) only[qt,jS,t0,t1,t3,k5,el,gl,gg,Nat.mul_one,Nat.zero_add,go_sem]
   repeat' first
    |(apply qb;exact rvk;simp only[go_sem];exact qj)
    |with_reducible apply aiA
   all_goals try exact clz
 ·have t1:((s:Int)<tok.length)=False:=eqf (by omega);rw[hR,qwl i2 (fun j hj=>s2 j (by omega))];simp (disch:=omega) only[qt,t1,go_sem]
  repeat' first
   |(apply qb;exact rvk;simp only[go_sem];exact qj)
theorem qDX(tok:List (List Tk))(col:List (List Int))(h:List AObj)(h1:0<tok.length)(h2:tok.length≤32)(h3: ∀s,s<tok.length→(tok.getD s []).length≤1024)(hc:col.length≤1000000000)(hl: ∀s,(tok.getD s []).length≤1000000000)(hm: ∀i,(col.getD i []).length≤1000000000):
  ACalls Tryz.prog 153 [qt tok,qu col] h (.int .i64 (if alB tok col=true then 0 else 19)) h:=by
 have c1:=fun h=>qDZ tok h h1 h2 h3
 have c2:=fun h=>qDf tok col h (by omega) hc hl hm
 cases g:alB tok col<;>rw[g]at c2
 all_goals
  refine acO qx8 ?_;simp (disch:=omega) only[qwD,go_sem]
  repeat' first
   |((first|refine cA (c1 _) ?_ ?_|refine cA (c2 _) ?_ ?_);exact flk;simp (disch:=omega) only[go_sem])
   |(apply qd;exact rvk;simp only[go_sem];exact qj)
theorem qAa{x:Co}(h:srE x=0):0<x.sig.length∧x.sig.length≤32∧x.tok.length=x.sig.length∧ ∀s,s<x.tok.length→(x.tok.getD s []).length≤1024:=by
 unfold srE at h;split at h
 ·cases h
 split at h
 ·cases h
 rename_i g2;split at h
 ·cases h
 rename_i g3;split at h
 ·rename_i g4;exact absurd h g4
 split at h
 ·cases h
 rename_i g5;have h3:=jo.1 h;refine⟨by omega,by omega,Classical.not_not.1 g5,fun s hs=> ?_⟩
 have:=h3 s hs
 unfold qjg at this;split at this
 ·cases this
 ·omega
theorem coP(x:Co)(h:List AObj)(hz:qv0 x)(hp:qai SG h):ACalls Tryz.prog 81 [.agg (coC x)] h (.int .i64 (coE x)) h:=by
 have c1:=fun l=>qEa x (h++l) hz (hp.app l)
 unfold coE
 by_cases g:srE x=0
 case neg=>
  have k1:(srE x=0)=False:=eqf g;rw[ipo g];obtain⟨e,he⟩: ∃e,e=srE x:=⟨_,rfl⟩
  rw[←he]at c1 k1 ⊢;unfold strs qt at c1;refine acO qy4 ?_;simp (disch:=omega) only[qA7,coC,strs,qt,go_sem]
  repeat' first
   |(refine cA (c1 _) flk ?_;simp (disch:=omega) only[k1,go_sem])
   |(apply qb;exact rvk;simp only[go_sem];exact qj)
 rw[ine (fun hc=>hc g)];obtain⟨o1,o2,o3,o4⟩:=qAa g;have c2:=fun h=>qDX x.tok x.col h (by omega) (by omega) o4 hz.cl hz.tl hz.ce
 rw[g]at c1;unfold strs qt at c1;unfold qt qu at c2;cases g2:alB x.tok x.col<;>rw[g2]at c2
 all_goals
  refine acO qy4 ?_;simp (disch:=omega) only[qA7,coC,strs,qt,qu,go_sem]
  repeat' first
   |((first|refine cA (c1 _) ?_ ?_|refine cA (c2 _) ?_ ?_);exact flk;simp (disch:=omega) only[go_sem])
   |(apply qb;exact rvk;simp only[go_sem];first|exact qj|apply qg)
   |with_reducible first|intro _|apply aiA
  all_goals try exact clz
end RC
end
section
open Go Go.Proofs AF
def zW:List Nat:= []
def qsT:C:=
 ((C.ops [O1 3 (.box 0 26) 0,MC 6 (.str []),MC 7 (.bool false)]).seq ((C.ops [O1 9 (.fldA 3) 3,LD 10 9,MV 11 1,O2 12 (.idxA 1) 10 11,LD 13 12,MV 14 2,O2 15 (.idxA 1) 13 14,
 LD 16 15,MV 8 16]).seq (((C.ops [MV 17 8,BC 18 .lss 17 (i6 0)]).seq (C.cond (.t 18) ((C.ops [MC 6 (.str []),MC 7 (.bool false)]).seq C.ret) C.skip)).seq ((C.ops [O1 19 (.fldA 2)
 3,LD 20 19,MV 21 2,O2 22 (.idxA 1) 20 21,LD 23 22,MV 24 8,O2 25 (.idxA 6) 23 24,O1 26 (.fldA 0) 25,LD 27 26,MV 6 27,MC 7 (.bool true)]).seq
 C.ret))))
theorem qrL:qE Tryz.prog 300 28 1 [RV.tmp 6,RV.tmp 7] qsT:=fi Tryz.f300 [3] zW []
def qxa:C:=
 ((C.ops [O1 2 (.box 0 26) 0,MC 4 (.bool false)]).seq ((C.ops [O1 11 (.load (some 4)) 2,MV 12 1,ON 13 (.call 300 true) [.t 11,.t 12,.c (i6 0)],MV 10 13,O1 14 (.ext 0) 10,O1
 15 (.ext 1) 10,MV 5 14,MV 6 15]).seq (((C.ops [O1 16 (.fldA 1) 2,LD 17 16,O1 18 .len 17,MC 19 (i6 0)]).seq (C.block 0 ((C.ops [BI 20 .lss 19 18]).seq ((C.cond (.t 20) C.skip
 (C.exit 0)).seq ((C.block 1 ((C.ops [MV 21 19,MV 7 21]).seq ((C.ops [O1 23 (.load (some 4)) 2,MV 24 1,MV 25 7,ON 26 (.call 300 true) [.t 23,.t 24,.t 25],MV 22 26,O1 27
 (.ext 0) 22,O1 28 (.ext 1) 22,MV 8 27,MV 9 28]).seq ((C.ops [MV 29 6,O1 30 (.un UnOp.not) 29,MV 31 30,MG 32 31 false 9,P1 33 31 false (.un UnOp.not) 32,PT 34 31 33,MV 35
 34,MG 36 35 false 8,MG 37 35 false 5,P2 38 35 false (.bin .neq) 36 37,PT 39 35 38]).seq (C.cond (.t 39) ((C.ops [MC 4 (.bool false)]).seq C.ret) C.skip))))).seq (C.ops [BC 40
 .add 19 (i6 1),MV 19 40])))).loop)).seq ((C.ops [MC 4 (.bool true)]).seq
 C.ret))))
theorem qyM:qE Tryz.prog 278 41 1 [RV.tmp 4] qxa:=fi Tryz.f278 [2] zW []
def qwW:C:=
 ((C.ops [O1 1 (.box 0 26) 0,MC 2 .nilfn]).seq ((C.ops [O1 3 (.mkfn (Fn.func 277) 0) 1,MV 2 3]).seq
 C.ret))
theorem qyv:qE Tryz.prog 233 4 1 [RV.tmp 2] qwW:=fi Tryz.f233 [1] zW []
def qw9:C:=
 ((C.ops [MC 3 (i6 0)]).seq (C.block 0 (((C.ops [MV 5 3,O1 6 (.fldA 3) 1,LD 7 6,O1 8 .len 7,BI 9 .lss 5 8]).seq (C.cond (.t 9) C.skip (C.exit 0))).seq (C.block 1 ((C.ops [MV 10
 3,MV 4 10]).seq ((C.block 2 (((C.ops [MV 11 4,O1 12 (.fldA 3) 1,LD 13 12,O1 14 .len 13,BI 15 .lss 11 14,MV 16 15,P1 17 16 true (.load (some 4)) 1,MG 18 16 true 4,P2 19 16
 true (.call 278 true) 17 18,P1 20 16 true (.un UnOp.not) 19,PF 21 16 20]).seq (C.cond (.t 21) C.skip (C.exit 2))).seq (C.block 3 (C.ops [MV 22 4,BC 23 .add 22 (i6 1),MV 4
 23]))).loop).seq (((C.ops [MV 24 4,MV 25 3,BI 26 .gtr 24 25,MV 27 26,MG 28 27 true 0,MG 29 27 true 3,MG 30 27 true 4,PN 31 27 true .callv [.t 28,.t 29,.t 30],P1 32 27
 true (.un UnOp.not) 31,PF 33 27 32]).seq (C.cond (.t 33) C.ret C.skip)).seq (C.ops [MV 34 4,BC 35 .add 34 (i6 1),MV 3
 35])))))).loop))
theorem qyL:qE Tryz.prog 277 36 0 [] qw9:=fi Tryz.f277 [] zW []
def qw6:C:=
 ((C.ops [O1 4 (.box 0 26) 0,ON 8 (.nilo 1 1 9) []]).seq ((C.ops [ON 9 (.nilo 2 1 9) []]).seq (((C.ops [MV 13 1,MV 10 13]).seq (C.block 0 (((C.ops [MV 14 10,MV 15 2,BI 16 .lss
 14 15]).seq (C.cond (.t 16) C.skip (C.exit 0))).seq ((C.block 1 ((C.ops [O1 20 (.load (some 4)) 4,MV 21 10,MV 22 3,ON 23 (.call 300 true) [.t 20,.t 21,.t 22],MV 19 23,O1 24
 (.ext 0) 19,O1 25 (.ext 1) 19,MV 11 24,MV 12 25]).seq ((C.ops [MV 26 12]).seq (C.cond (.t 26) (C.ops [MV 27 9,MV 28 11,⟨some 29,none,.bslc 3 1 1 9 [.str []] [(0,1)],[.t
 28]⟩,O2 30 (.app 4 1 9 16) 27 29,MV 9 30]) C.skip)))).seq (C.ops [MV 17 10,BC 18 .add 17 (i6 1),MV 10 18]))).loop)).seq ((C.ops [MV 31 9,MV 8 31]).seq
 C.ret))))
theorem qyI:qE Tryz.prog 274 32 5 [RV.tmp 8] qw6:=fi Tryz.f274 [4,8,9,29,30] zW []
def qw7:C:=
 ((C.ops [O1 4 (.box 0 89) 1,O1 5 (.box 1 280) 2,MC 6 (i6 0)]).seq ((C.ops [MV 7 0,O2 8 (.mkfn (Fn.func 301) 0) 5 4,O2 9 (.call 127 true) 7 8,MV 6 9]).seq
 C.ret))
theorem qyJ:qE Tryz.prog 275 10 2 [RV.tmp 6] qw7:=fi Tryz.f275 [4,5] zW []
def qxg:C:=
 ((C.ops [O1 3 (.box 0 89) 0,MC 4 (.bool false)]).seq ((C.ops [LD 5 1,O1 6 (.load (some 2)) 2,O1 7 (.load (some 2)) 3,ON 8 .callv [.t 5,.t 6,.t 7],MV 4 8]).seq
 C.ret))
theorem qyT:qE Tryz.prog 301 9 1 [RV.tmp 4] qxg:=fi Tryz.f301 [3] zW []
def qwV:C:=
 ((C.ops [O1 3 (.box 0 26) 0,ON 6 (.nilo 1 2 89) []]).seq ((C.ops [ON 7 (.nilo 2 2 89) []]).seq (((C.ops [O1 11 (.fldA 1) 3,LD 12 11,O1 13 .len 12,MC 14 (i6 0)]).seq (C.block 0
 ((C.ops [BI 15 .lss 14 13]).seq ((C.cond (.t 15) C.skip (C.exit 0)).seq ((C.block 1 ((C.ops [MV 16 14,MV 8 16]).seq ((C.ops [O1 17 (.load (some 4)) 3,MV 18 1,MV 19 2,MV 20 8,
 ON 21 (.call 274 true) [.t 17,.t 18,.t 19,.t 20],MV 22 8,⟨some 23,none,.bslc 3 1 1 3 [i6 0] [(0,1)],[.t 22]⟩,⟨some 24,none,.build [.nl,.nl] [(0,1),(1,1)],[.t 21,
 .t 23]⟩,⟨some 9,none,.alloc 4 89 [.nl,.nl],[]⟩,ST 2 9 24]).seq ((C.ops [MV 25 7,O1 26 (.load (some 2)) 9,ON 27 (.call 275 true) [.t 25,.t 26,.c (.fn (Fn.func 276) []
 [])],MV 10 27]).seq (((C.ops [MV 28 10,BC 29 .lss 28 (i6 0)]).seq (C.cond (.t 29) ((C.ops [MV 30 7,O1 31 (.load (some 2)) 9,⟨some 32,none,.bslc 5 2 1 89 [.nl,.nl] [(0,2)],
 [.t 31]⟩,O2 33 (.app 6 2 89 48) 30 32,MV 7 33]).seq (C.exit 1)) C.skip)).seq (C.ops [MV 34 7,MV 35 10,MV 36 7,MV 37 10,O2 38 (.idxA 2) 36 37,O1 39 (.fldA 1) 38,LD 40 39,MV
 41 8,⟨some 42,none,.bslc 7 1 1 3 [i6 0] [(0,1)],[.t 41]⟩,O2 43 (.app 8 1 3 8) 40 42,O2 44 (.idxA 2) 34 35,O1 45 (.fldA 1) 44,ST 1 45 43])))))).seq (C.ops [BC 46 .add 14
 (i6 1),MV 14 46])))).loop)).seq ((C.ops [MV 47 7,MV 6 47]).seq
 C.ret))))
theorem qyu:qE Tryz.prog 232 48 9 [RV.tmp 6] qwV:=fi Tryz.f232 [3,6,7,23,9,32,33,42,43] zW []
def qw8:C:=
 ((C.ops [O1 2 (.box 0 89) 0,O1 3 (.box 1 89) 1,MC 4 (.bool false)]).seq ((C.ops [O1 5 (.fldA 0) 2,LD 6 5,O1 7 (.fldA 0) 3,LD 8 7,O2 9 (.call 53 true) 6 8,MV 4 9]).seq
 C.ret))
theorem qyK:qE Tryz.prog 276 10 2 [RV.tmp 4] qw8:=fi Tryz.f276 [2,3] zW []
def qwU:C:=
 ((C.ops [MC 4 (.bool false)]).seq ((C.ops [MV 5 0,MV 6 1,ON 7 (.call 272 true) [.t 5,.t 6,.c (.fn (Fn.func 273) [] [])],MV 4 7]).seq
 C.ret))
theorem qyt:qE Tryz.prog 231 8 0 [RV.tmp 4] qwU:=fi Tryz.f231 [] zW []
def qsR:C:=
 ((C.ops [O1 2 (.box 0 89) 0,O1 3 (.box 1 89) 1,MC 4 (.bool false)]).seq ((C.ops [O1 5 (.fldA 0) 2,LD 6 5,O1 7 (.fldA 0) 3,LD 8 7,O2 9 (.call 53 true) 6 8,MV 10 9,P1 11 10
 true (.fldA 1) 2,P1 12 10 true (.load none) 11,P1 13 10 true (.fldA 1) 3,P1 14 10 true (.load none) 13,P2 15 10 true (.call 40 true) 12 14,PF 16 10 15,MV 4 16]).seq
 C.ret))
theorem qrJ:qE Tryz.prog 273 17 2 [RV.tmp 4] qsR:=fi Tryz.f273 [2,3] zW []
def qwH:C:=
 ((C.ops [O1 2 (.box 0 26) 0,O1 3 (.box 1 27) 1,⟨some 4,none,.alloc 2 4 [.bool false],[]⟩]).seq ((C.ops [MC 5 (i6 (-1))]).seq (((C.ops [LD 10 3,O1 11 .len 10,MC 12 (i6
 0)]).seq (C.block 0 ((C.ops [BI 13 .lss 12 11]).seq ((C.cond (.t 13) C.skip (C.exit 0)).seq ((C.block 1 ((C.ops [O2 14 (.idxA 3) 10 12,O1 15 (.load (some 3)) 14,⟨some 7,none,
 .alloc 3 83 [i6 0,i6 0,.nl],[]⟩,ST 3 7 15]).seq (((C.ops [O1 16 (.fldA 0) 7,LD 17 16,MV 18 5,BI 19 .leq 17 18,MV 20 19,P1 21 20 false (.fldA 0) 7,P1 22 20 false (.load
 none) 21,PC 23 20 false (.bin .lss) 22 (i6 0),PT 24 20 23,MV 25 24,P1 26 25 false (.fldA 0) 7,P1 27 25 false (.load none) 26,P1 28 25 false (.fldA 1) 7,P1 29 25 false (.load
 none) 28,P2 30 25 false (.bin .geq) 27 29,PT 31 25 30,MV 32 31,P1 33 32 false (.fldA 1) 7,P1 34 32 false (.load none) 33,P1 35 32 false (.fldA 3) 2,P1 36 32 false (.load
 none) 35,P1 37 32 false .len 36,P2 38 32 false (.bin .gtr) 34 37,PT 39 32 38,MV 40 39,P1 41 40 false (.fldA 2) 7,P1 42 40 false (.load none) 41,P1 43 40 false (.load (some
 4)) 2,P1 44 40 false (.fldA 0) 7,P1 45 40 false (.load none) 44,P1 46 40 false (.fldA 1) 7,P1 47 40 false (.load none) 46,PN 48 40 false (.call 232 true) [.t 43,.t 45,.t
 47],P2 49 40 false (.call 231 true) 42 48,P1 50 40 false (.un UnOp.not) 49,PT 51 40 50]).seq (C.cond (.t 51) ((C.ops [⟨none,none,.store 1,[.t 4,.c (.bool false)]⟩]).seq
 C.ret) C.skip)).seq (C.ops [O1 52 (.fldA 1) 7,LD 53 52,MV 5 53])))).seq (C.ops [BC 54 .add 12 (i6 1),MV 12 54])))).loop)).seq (((C.ops [O1 55 (.load (some 4)) 2,O1 56 (.call
 233 true) 55]).seq (C.block 2 (C.range (.t 56) [57,58] ((C.ops [⟨some 8,none,.alloc 4 3 [i6 0],[]⟩,ST 1 8 57]).seq (C.ops [⟨some 9,none,.alloc 5 3 [i6 0],[]⟩,ST 1 9 58]))
 (C.block 3 ((C.ops [LD 59 3,O2 60 (.mkfn (Fn.func 234) 0) 8 9,O2 61 (.call 54 true) 59 60,O1 62 (.un UnOp.not) 61]).seq (C.cond (.t 62) ((C.ops [⟨none,none,.store 1,[.t 4,.c
 (.bool false)]⟩]).seq C.ret) C.skip)))))).seq ((C.ops [⟨none,none,.store 1,[.t 4,.c (.bool true)]⟩]).seq
 C.ret)))))
theorem qyd:qE Tryz.prog 177 63 6 [RV.cell 4 none] qwH:=fi Tryz.f177 [2,3,4,7,8,9] zW []
def qsM:C:=
 ((C.ops [O1 3 (.box 0 83) 0,MC 4 (.bool false)]).seq ((C.ops [O1 5 (.fldA 0) 3,LD 6 5,LD 7 1,BI 8 .leq 6 7,MV 9 8,P1 10 9 true (.load none) 2,P1 11 9 true (.fldA 1) 3,P1 12
 9 true (.load none) 11,P2 13 9 true (.bin .leq) 10 12,PF 14 9 13,MV 4 14]).seq
 C.ret))
theorem qrE:qE Tryz.prog 234 15 1 [RV.tmp 4] qsM:=fi Tryz.f234 [3] zW []
def qsB:C:=
 ((C.ops [O1 2 (.box 0 26) 0,MC 4 (i6 0)]).seq (((C.ops [O1 5 (.load (some 4)) 2,O1 6 (.call 81 true) 5,BC 7 .neq 6 (i6 0)]).seq (C.cond (.t 7) ((C.ops [MC 4 (i6 1)]).seq C.ret)
 C.skip)).seq (((C.ops [O1 8 (.load (some 4)) 2,MV 9 1,O2 10 (.call 177 true) 8 9,O1 11 (.un UnOp.not) 10]).seq (C.cond (.t 11) ((C.ops [MC 4 (i6 20)]).seq C.ret) C.skip)).seq
 ((C.ops [MC 4 (i6 0)]).seq
 C.ret))))
theorem qrq:qE Tryz.prog 111 12 1 [RV.tmp 4] qsB:=fi Tryz.f111 [2] zW []
def qsC:C:=
 ((C.ops [O1 3 (.box 0 3) 1,MC 4 (i6 0),MC 5 (i6 0)]).seq (((C.ops [LD 6 3,BC 7 .lss 6 (i6 0)]).seq (C.cond (.t 7) ((C.ops [MC 4 (i6 0),MC 5 (i6 2)]).seq C.ret) C.skip)).seq
 ((C.ops [MV 8 0,O1 9 (.mkfn (Fn.func 178) 0) 3,O2 10 (.call 128 true) 8 9,MV 4 10,MC 5 (i6 0)]).seq
 C.ret)))
theorem qrr:qE Tryz.prog 113 11 1 [RV.tmp 4,RV.tmp 5] qsC:=fi Tryz.f113 [3] zW []
def qsJ:C:=
 ((C.ops [O1 2 (.box 0 83) 0,MC 3 (.bool false)]).seq ((C.ops [O1 4 (.fldA 0) 2,LD 5 4,LD 6 1,BI 7 .leq 5 6,MV 8 7,P1 9 8 true (.load none) 1,P1 10 8 true (.fldA 1) 2,P1 11
 8 true (.load none) 10,P2 12 8 true (.bin .lss) 9 11,PF 13 8 12,MV 3 13]).seq
 C.ret))
theorem qrB:qE Tryz.prog 178 14 1 [RV.tmp 3] qsJ:=fi Tryz.f178 [2] zW []
end
section
open Go Go.Proofs AF
def qbK:List Nat:= []
def qCP:C:=
 ((C.ops [MC 2 (.bool false)]).seq (((C.ops [MC 3 (i6 0)]).seq (C.block 0 (((C.ops [MV 5 3,MV 6 0,O1 7 .len 6,BI 8 .lss 5 7]).seq (C.cond (.t 8) C.skip (C.exit 0))).seq ((C.block
 1 (((C.ops [MV 11 0,MV 12 3,O2 13 (.idxA 3) 11 12,O1 14 (.fldA 2) 13,LD 15 14,O1 16 .len 15,BC 17 .gtr 16 (i6 6)]).seq (C.cond (.t 17) ((C.ops [MC 2 (.bool true)]).seq C.ret)
 C.skip)).seq ((C.ops [MC 4 (i6 0)]).seq (C.block 2 (((C.ops [MV 18 4,MV 19 0,MV 20 3,O2 21 (.idxA 3) 19 20,O1 22 (.fldA 2) 21,LD 23 22,O1 24 .len 23,BI 25 .lss 18 24]).seq
 (C.cond (.t 25) C.skip (C.exit 2))).seq ((C.block 3 ((C.ops [MV 28 0,MV 29 3,O2 30 (.idxA 3) 28 29,O1 31 (.fldA 2) 30,LD 32 31,MV 33 4,O2 34 (.idxA 2) 32 33,O1 35 (.fldA 1)
 34,LD 36 35,O1 37 .len 36,BC 38 .gtr 37 (i6 8),MV 39 38,MG 40 39 false 0,MG 41 39 false 3,P2 42 39 false (.idxA 3) 40 41,P1 43 39 false (.fldA 2) 42,P1 44 39 false (.load
 none) 43,MG 45 39 false 4,P2 46 39 false (.idxA 2) 44 45,P1 47 39 false (.fldA 0) 46,P1 48 39 false (.load none) 47,PC 49 39 false (.call 70 true) 48 (i6 8),PT 50 39 49]).seq
 (C.cond (.t 50) ((C.ops [MC 2 (.bool true)]).seq C.ret) C.skip))).seq (C.ops [MV 26 4,BC 27 .add 26 (i6 1),MV 4 27]))).loop)))).seq (C.ops [MV 9 3,BC 10 .add 9 (i6 1),MV 3
 10]))).loop)).seq ((C.ops [MV 51 0,O1 52 .len 51,BC 53 .gtr 52 (i6 12),MV 2 53]).seq
 C.ret)))
theorem qBD:qE Tryz.prog 78 54 0 [RV.tmp 2] qCP:=fi Tryz.f78 [] qbK []
def qCO:C:=
 ((C.ops [O1 1 (.box 0 26) 0,MC 2 (.bool false)]).seq (((C.ops [MC 3 (i6 0)]).seq (C.block 0 (((C.ops [MV 4 3,O1 5 (.fldA 3) 1,LD 6 5,O1 7 .len 6,BI 8 .lss 4 7]).seq (C.cond
 (.t 8) C.skip (C.exit 0))).seq ((C.block 1 ((C.ops [O1 11 (.fldA 3) 1,LD 12 11,MV 13 3,O2 14 (.idxA 1) 12 13,LD 15 14,O1 16 .len 15,BC 17 .gtr 16 (i6 36)]).seq (C.cond (.t
 17) ((C.ops [MC 2 (.bool true)]).seq C.ret) C.skip))).seq (C.ops [MV 9 3,BC 10 .add 9 (i6 1),MV 3 10]))).loop)).seq ((C.ops [O1 18 (.fldA 2) 1,LD 19 18,O1 20 (.call 149 true)
 19,MV 21 20,P1 22 21 false (.fldA 3) 1,P1 23 21 false (.load none) 22,P1 24 21 false .len 23,PC 25 21 false (.bin .gtr) 24 (i6 24),PT 26 21 25,MV 27 26,P1 28 27 false
 (.fldA 1) 1,P1 29 27 false (.load none) 28,P1 30 27 false .len 29,PC 31 27 false (.bin .gtr) 30 (i6 36),PT 32 27 31,MV 33 32,P1 34 33 false (.fldA 0) 1,P1 35 33 false (.load
 none) 34,P1 36 33 false (.fldA 1) 1,P1 37 33 false (.load none) 36,P2 38 33 false (.call 150 true) 35 37,PT 39 33 38,MV 2 39]).seq
 C.ret)))
theorem qBC:qE Tryz.prog 77 40 1 [RV.tmp 2] qCO:=fi Tryz.f77 [1] qbK []
def qwB:C:=
 ((C.ops [MC 2 (.bool false)]).seq ((C.ops [MC 3 (i6 1)]).seq (((C.ops [MC 4 (i6 0)]).seq (C.block 0 (((C.ops [MV 7 4,MV 8 0,O1 9 .len 8,BI 10 .lss 7 9]).seq (C.cond (.t 10)
 C.skip (C.exit 0))).seq ((C.block 1 (((C.ops [MV 13 0,MV 14 4,O2 15 (.idxA 1) 13 14,LD 16 15,O1 17 .len 16,BC 18 .gtr 17 (i6 6),MV 19 18,MG 20 19 false 4,PC 21 19 false
 (.bin .geq) 20 (i6 4),MG 22 19 false 21,MG 23 22 true 0,MG 24 22 true 4,P2 25 22 true (.idxA 1) 23 24,P1 26 22 true (.load none) 25,P1 27 22 true .len 26,PC 28 22 true (.bin
 .gtr) 27 (i6 1),QF 29 19 false 22 28,PT 30 19 29]).seq (C.cond (.t 30) ((C.ops [MC 2 (.bool true)]).seq C.ret) C.skip)).seq (((C.ops [MV 31 4,BC 32 .lss 31 (i6 4)]).seq (C.cond
 (.t 32) (C.ops [MV 33 3,MV 34 0,MV 35 4,O2 36 (.idxA 1) 34 35,LD 37 36,O1 38 .len 37,BC 39 .add 38 (i6 1),BI 40 .mul 33 39,MV 3 40]) C.skip)).seq ((C.ops [MC 5 (i6 0)]).seq
 (C.block 2 (((C.ops [MV 41 5,MV 42 0,MV 43 4,O2 44 (.idxA 1) 42 43,LD 45 44,O1 46 .len 45,BI 47 .lss 41 46]).seq (C.cond (.t 47) C.skip (C.exit 2))).seq ((C.block 3 ((C.ops
 [MV 50 0,MV 51 4,O2 52 (.idxA 1) 50 51,LD 53 52,MV 54 5,O2 55 (.idxA 6) 53 54,O1 56 (.load (some 6)) 55,⟨some 6,none,.alloc 0 124 [.str [],.str [],.str [],i6 0,i6 0,
 .str []],[]⟩,ST 6 6 56]).seq ((C.ops [O1 57 (.fldA 0) 6,LD 58 57,O1 59 .slen 58,BC 60 .gtr 59 (i6 12),MV 61 60,P1 62 61 false (.fldA 1) 6,P1 63 61 false (.load none) 62,P1
 64 61 false .slen 63,PC 65 61 false (.bin .gtr) 64 (i6 12),PT 66 61 65,MV 67 66,P1 68 67 false (.fldA 2) 6,P1 69 67 false (.fldA 0) 68,P1 70 67 false (.load none) 69,P1 71
 67 false .slen 70,PC 72 67 false (.bin .gtr) 71 (i6 20),PT 73 67 72,MV 74 73,P1 75 74 false (.fldA 5) 6,P1 76 74 false (.load none) 75,P1 77 74 false .slen 76,PC 78 74 false
 (.bin .gtr) 77 (i6 20),PT 79 74 78]).seq (C.cond (.t 79) ((C.ops [MC 2 (.bool true)]).seq C.ret) C.skip)))).seq (C.ops [MV 48 5,BC 49 .add 48 (i6 1),MV 5 49]))).loop))))).seq
 (C.ops [MV 11 4,BC 12 .add 11 (i6 1),MV 4 12]))).loop)).seq ((C.ops [MV 80 3,BC 81 .gtr 80 (i6 400),MV 82 81,MG 83 82 false 0,P1 84 82 false .len 83,PC 85 82 false (.bin
 .gtr) 84 (i6 6),MG 86 82 false 85,MG 87 86 true 0,P1 88 86 true .len 87,PC 89 86 true (.bin .leq) 88 (i6 32),QF 90 82 false 86 89,PT 91 82 90,MV 92 91,MG 93 92 false 0,P1
 94 92 false .len 93,PC 95 92 false (.bin .gtr) 94 (i6 34),PT 96 92 95,MV 2 96]).seq
 C.ret))))
theorem qx6:qE Tryz.prog 149 97 1 [RV.tmp 2] qwB:=fi Tryz.f149 [6] qbK []
def qwC:C:=
 ((C.ops [MC 4 (.bool false)]).seq (((C.ops [MC 5 (i6 0)]).seq (C.block 0 (((C.ops [MV 6 5,MV 7 1,O1 8 .len 7,BI 9 .lss 6 8]).seq (C.cond (.t 9) C.skip (C.exit 0))).seq ((C.block
 1 ((C.ops [MV 12 1,MV 13 5,O2 14 (.idxA 1) 12 13,LD 15 14,O1 16 .slen 15,BC 17 .gtr 16 (i6 20)]).seq (C.cond (.t 17) ((C.ops [MC 4 (.bool true)]).seq C.ret) C.skip))).seq
 (C.ops [MV 10 5,BC 11 .add 10 (i6 1),MV 5 11]))).loop)).seq ((C.ops [MV 18 0,O1 19 .slen 18,BC 20 .gtr 19 (i6 20),MV 4 20]).seq
 C.ret)))
theorem qx7:qE Tryz.prog 150 21 0 [RV.tmp 4] qwC:=fi Tryz.f150 [] qbK []
def qsD:C:=
 ((C.ops [O1 3 (.box 0 64) 0,MC 4 (.bool false)]).seq ((C.ops [O1 5 (.fldA 1) 3,LD 6 5,LD 7 1,BI 8 .eql 6 7,MV 9 8,P1 10 9 true (.fldA 0) 3,P1 11 9 true (.load none) 10,P1
 12 9 true (.load none) 2,P2 13 9 true (.bin .eql) 11 12,PF 14 9 13,MV 4 14]).seq
 C.ret))
theorem qrs:qE Tryz.prog 114 15 1 [RV.tmp 4] qsD:=fi Tryz.f114 [3] qbK []
def jD:C:=
 ((C.ops [O1 5 (.box 0 26) 0,O1 7 (.box 1 64) 2,O1 8 (.box 2 64) 3,MC 10 (i6 0)]).seq ((C.block 0 ((C.ops [O1 14 (.fldA 0) 7,LD 15 14,BC 16 .eql 15 (.str []),MV 17 16,P1 18
 17 false (.fldA 0) 7,P1 19 17 false (.load none) 18,P1 20 17 false .slen 19,PC 21 17 false (.bin .gtr) 20 (i6 64),PT 22 17 21,MV 13 22]).seq (C.cond (.t 13) ((C.ops [MC 10 (i6
 11)]).seq C.ret) ((C.ops [O1 24 (.fldA 1) 7,LD 25 24,BC 26 .lss 25 (i6 0),MV 27 26,P1 28 27 false (.fldA 1) 7,P1 29 27 false (.load none) 28,P1 30 27 false (.fldA 3) 5,P1 31
 27 false (.load none) 30,P1 32 27 false .len 31,P2 33 27 false (.bin .geq) 29 32,PT 34 27 33,MV 35 34,MG 36 35 false 4,P1 37 35 false (.un UnOp.not) 36,MG 38 35 false 37,P1
 39 38 true (.fldA 1) 7,P1 40 38 true (.load none) 39,P1 41 38 true (.fldA 1) 8,P1 42 38 true (.load none) 41,P2 43 38 true (.bin .lss) 40 42,QF 44 35 false 38 43,PT 45 35 44,
 MV 23 45]).seq (C.cond (.t 23) ((C.ops [MC 10 (i6 19)]).seq C.ret) ((C.ops [O1 47 (.fldA 2) 7,LD 48 47,BC 49 .lss 48 (i6 (-1)),MV 50 49,P1 51 50 false (.fldA 2) 7,P1 52 50
 false (.load none) 51,MG 53 50 false 1,P1 54 50 false .len 53,P2 55 50 false (.bin .geq) 52 54,PT 56 50 55,MV 46 56]).seq (C.cond (.t 46) ((C.ops [MC 10 (i6 20)]).seq C.ret)
 C.skip))))))).seq (((C.ops [MV 58 1,O1 59 (.fldA 1) 7,LD 60 59,O2 61 (.call 113 true) 58 60,MV 57 61,O1 62 (.ext 0) 57,O1 63 (.ext 1) 57,MV 11 62,MV 12 63]).seq ((C.ops [MV
 64 11,O1 65 (.fldA 2) 7,LD 66 65,BI 67 .neq 64 66]).seq (C.cond (.t 67) ((C.ops [MC 10 (i6 20)]).seq C.ret) C.skip))).seq (((C.ops [O1 68 (.fldA 3) 7,LD 69 68,BC 70 .lss 69
 (i6 (-1)),MV 71 70,P1 72 71 false (.fldA 2) 7,P1 73 71 false (.load none) 72,PC 74 71 false (.bin .lss) 73 (i6 0),MG 75 71 false 74,P1 76 75 true (.fldA 3) 7,P1 77 75 true
 (.load none) 76,PC 78 75 true (.bin .neq) 77 (i6 (-1)),QF 79 71 false 75 78,PT 80 71 79,MV 81 80,MG 82 81 false 4,P1 83 81 false (.un UnOp.not) 82,MG 84 81 false 83,P1 85
 84 true (.fldA 2) 7,P1 86 84 true (.load none) 85,PC 87 84 true (.bin .geq) 86 (i6 0),QF 88 81 false 84 87,MG 89 81 false 88,P1 90 89 true (.fldA 2) 7,P1 91 89 true (.load
 none) 90,P1 92 89 true (.fldA 2) 8,P1 93 89 true (.load none) 92,P2 94 89 true (.bin .eql) 91 93,QF 95 81 false 89 94,MG 96 81 false 95,P1 97 96 true (.fldA 3) 7,P1 98 96
 true (.load none) 97,P1 99 96 true (.fldA 3) 8,P1 100 96 true (.load none) 99,P2 101 96 true (.bin .neq) 98 100,QF 102 81 false 96 101,PT 103 81 102]).seq (C.cond (.t 103)
 ((C.ops [MC 10 (i6 2)]).seq C.ret) C.skip)).seq ((C.ops [MC 10 (i6 0)]).seq
 C.ret)))))
theorem zK:qE Tryz.prog 112 104 3 [RV.tmp 10] jD:=fi Tryz.f112 [5,7,8] qbK []
end
section
open Go Go.Proofs AF HY LN
namespace RC
theorem qBl(u:Un)(c:Int)(h:List AObj):ACalls Tryz.prog 178 [.agg (unC u),.ip [.int .i64 c]] h (.bool (decide (u.frm≤c)&&decide (c<u.to))) h:=by
 by_cases g:u.frm≤c
 ·have k1:(u.frm≤c)=True:=eqt g;rw[dqt g,Bool.true_and];refine acO qrB ?_;simp (disch:=omega) only[qsJ,unC,k1,go_sem]
  repeat' first
   |(apply qb;exact rvk;simp only[go_sem];exact qj)
   |with_reducible apply aiA
  all_goals try exact clz
 ·have k1:(u.frm≤c)=False:=eqf g;rw[dqf g,Bool.false_and];refine acO qrB ?_;simp (disch:=omega) only[qsJ,unC,k1,go_sem]
  repeat' first
   |(apply qb;exact rvk;simp only[go_sem];exact qj)
   |with_reducible apply aiA
  all_goals try exact clz
theorem qDS(l:List Un)(c:Int)(k v:Nat)(h:List AObj)(hk:getO k h=some (.mem v 3 [.int .i64 c]))(hl:l.length≤1000000000):
  ACalls Tryz.prog 128 [qO l,.fn (.func 178) [] [.op k v 0]] h (.int .i64 (fnU l c)) h:=by
 have hc:=qU hk;unfold qO fnU;refine qaO qrw l.length (fun j=>unC (l.getD j default)) (fun j=> .agg (unC (l.getD j default))) _ [] [.op k v 0] _ h (fun i _=>⟨rfl,by simp[zZ,unC],rfl,rfl,rfl⟩) (fun i _=> ?_) (by omega);refine ACalls.borrow ?_ rfl;have e:([AV.agg (unC (l.getD i default))]++ [AV.op k v 0]).map (rei (fun _=>true) h 8)= [.agg (unC (l.getD i default)),.ip [.int .i64 c]]:=by
  simp only[List.cons_append,List.nil_append,List.map_cons,List.map_nil,rei_op,if_true,hc,ipOf_some,List.drop_zero,rei_agg];rfl
 rw[List.nil_append,e];exact qBl _ c _
def fnR(l:List Un)(c:Int):Int:=if c<0 then 0 else fnU l c
def fnE(c:Int):Int:=if c<0 then 2 else 0
theorem qCY(l:List Un)(c:Int)(h:List AObj)(hl:l.length≤1000000000):ACalls Tryz.prog 113 [qO l,.int .i64 c] h (.tup [.int .i64 (fnR l c),.int .i64 (fnE c)]) h:=by
 unfold fnR fnE
 by_cases g:c<0
 ·have k1:(c<0)=True:=eqt g;rw[ipo g,ipo g];refine acO qrr ?_;simp (disch:=omega) only[qsC,k1,go_sem]
  repeat' first
   |(apply qb;exact rvk;simp only[go_sem];exact qj)
   |with_reducible apply aiA
  all_goals try exact clz
 ·have k1:(c<0)=False:=eqf g;rw[ine g,ine g];have c1:=qDS l c h.length 1 (h++ [.mem 1 3 [.int .i64 c]]) (by rw[getO_app0];rfl) hl;refine acO qrr ?_;simp (disch:=omega) only[qsC,k1,go_sem]
  repeat' first
   |(refine cA (c1) flk ?_;simp (disch:=omega) only[go_sem])
   |(apply qb;exact rvk;simp only[go_sem];exact qj)
   |with_reducible apply aiA
  all_goals try exact clz
theorem qEs(x:Co)(l:List Un)(w bef:Wd)(first:Bool)(h:List AObj)(hl:l.length≤1000000000)(hc:x.col.length≤1000000000)(hw:w.text.length≤1000000000):
  ACalls Tryz.prog 112 [.agg (coC x),qO l,.agg (wdC w),.agg (wdC bef),.bool first] h (.int .i64 (wdE x l w bef first)) h:=by
 obtain⟨R,hR⟩: ∃R,R=wdE x l w bef first:=⟨_,rfl⟩
 rw[←hR];unfold wdE at hR;have cF:=fun h=>qCY l w.col h hl
 by_cases g0:w.text= []
 ·have k0:(w.text= [])=True:=eqt g0;rw[ipo (.inl g0)]at hR;rw[hR];refine acO zK ?_;simp (disch:=omega) only[jD,coC,wdC,qO,k0,go_sem]
  repeat' first
   |(apply qb;exact rvk;simp only[go_sem];exact qj)
 have k0:(w.text= [])=False:=eqf g0;simp only[k0,false_or]at hR;obtain⟨p,hp⟩: ∃p,p=fnU l w.col:=⟨_,rfl⟩
 rw[←hp]at hR;cases first with
 |true=>
  simp only[Bool.true_eq_false,false_and,or_false]at hR
  by_cases gB:64<w.text.length
  ·have kB:((64:Int)<w.text.length)=True:=eqt (by first|exact gB|omega);have hV:R=11:=by rw[hR];(repeat' split)<;>first|rfl|(exfalso;omega)
   rw[hV];refine acO zK ?_;simp (disch:=omega) only[jD,coC,wdC,qO,qu,k0,kB,go_sem]
   repeat' first
    |(apply qb;exact rvk;simp only[go_sem];exact qj)
  ·have kB:((64:Int)<w.text.length)=False:=eqf (by first|exact gB|omega)
   by_cases gC:w.col<0
   ·have kC:(w.col<0)=True:=eqt (by first|exact gC|omega);have hV:R=19:=by rw[hR];(repeat' split)<;>first|rfl|(exfalso;omega)
    rw[hV];refine acO zK ?_;simp (disch:=omega) only[jD,coC,wdC,qO,qu,k0,kB,kC,go_sem]
    repeat' first
     |(apply qb;exact rvk;simp only[go_sem];exact qj)
   ·have kC:(w.col<0)=False:=eqf (by first|exact gC|omega);have eF:fnR l w.col=p:=by unfold fnR;rw[ine gC,hp]
    have eE:fnE w.col=0:=ine gC;simp only[eF,eE]at cF
    by_cases gD:(x.col.length:Int)≤w.col
    ·have kD:((x.col.length:Int)≤w.col)=True:=eqt (by first|exact gD|omega);have hV:R=19:=by rw[hR];(repeat' split)<;>first|rfl|(exfalso;omega)
     rw[hV];refine acO zK ?_;simp (disch:=omega) only[jD,coC,wdC,qO,qu,k0,kB,kC,kD,go_sem]
     repeat' first
      |(apply qb;exact rvk;simp only[go_sem];exact qj)
      |with_reducible apply aiA
     all_goals try exact clz
    ·have kD:((x.col.length:Int)≤w.col)=False:=eqf (by first|exact gD|omega)
     by_cases gG:w.unit< -1
     ·have kG:(w.unit< -1)=True:=eqt (by first|exact gG|omega);have hV:R=20:=by rw[hR];(repeat' split)<;>first|rfl|(exfalso;omega)
      rw[hV];refine acO zK ?_;simp (disch:=omega) only[jD,coC,wdC,qO,qu,k0,kB,kC,kD,kG,go_sem]
      repeat' first
       |(apply qb;exact rvk;simp only[go_sem];first|exact qj|apply qg)
       |with_reducible first|intro _|apply aiA
      all_goals try exact clz
     ·have kG:(w.unit< -1)=False:=eqf (by first|exact gG|omega)
      by_cases gH:(l.length:Int)≤w.unit
      ·have kH:((l.length:Int)≤w.unit)=True:=eqt (by first|exact gH|omega);have hV:R=20:=by rw[hR];(repeat' split)<;>first|rfl|(exfalso;omega)
       rw[hV];refine acO zK ?_;simp (disch:=omega) only[jD,coC,wdC,qO,qu,k0,kB,kC,kD,kG,kH,go_sem]
       repeat' first
        |(apply qb;exact rvk;simp only[go_sem];first|exact qj|apply qg)
        |with_reducible first|intro _|apply aiA
       all_goals try exact clz
      ·have kH:((l.length:Int)≤w.unit)=False:=eqf (by first|exact gH|omega)
       by_cases gI:p=w.unit
       ·have kI:(p=w.unit)=True:=eqt (by first|exact gI|omega)
        by_cases gJ:w.dec< -1
        ·have kJ:(w.dec< -1)=True:=eqt (by first|exact gJ|omega);have hV:R=2:=by rw[hR];(repeat' split)<;>first|rfl|(exfalso;omega)
         rw[hV];refine acO zK ?_;simp (disch:=omega) only[jD,coC,wdC,qO,qu,k0,kB,kC,kD,kG,kH,go_sem]
         repeat' first
          |(refine cA (cF _) flk ?_;simp (disch:=omega) only[kI,kJ,go_sem])
          |(apply qb;exact rvk;simp only[go_sem];first|exact qj|apply qg)
          |with_reducible first|intro _|apply aiA
         all_goals try exact clz
        ·have kJ:(w.dec< -1)=False:=eqf (by first|exact gJ|omega)
         by_cases gK:w.unit<0
         ·have kK:(w.unit<0)=True:=eqt (by first|exact gK|omega);have kKb:(0≤w.unit)=False:=eqf (by first|exact gK|omega)
          by_cases gL:w.dec= -1
          ·have kL:(w.dec= -1)=True:=eqt (by first|exact gL|omega);have hV:R=0:=by rw[hR];(repeat' split)<;>first|rfl|(exfalso;omega)
           rw[hV];refine acO zK ?_;simp (disch:=omega) only[jD,coC,wdC,qO,qu,k0,kB,kC,kD,kG,kH,go_sem]
           repeat' first
            |(refine cA (cF _) flk ?_;simp (disch:=omega) only[kI,kJ,kK,kKb,kL,go_sem])
            |(apply qb;exact rvk;simp only[go_sem];first|exact qj|apply qg)
            |with_reducible first|intro _|apply aiA
           all_goals try exact clz
          ·have kL:(w.dec= -1)=False:=eqf (by first|exact gL|omega);have hV:R=2:=by rw[hR];(repeat' split)<;>first|rfl|(exfalso;omega)
           rw[hV];refine acO zK ?_;simp (disch:=omega) only[jD,coC,wdC,qO,qu,k0,kB,kC,kD,kG,kH,go_sem]
           repeat' first
            |(refine cA (cF _) flk ?_;simp (disch:=omega) only[kI,kJ,kK,kKb,kL,go_sem])
            |(apply qb;exact rvk;simp only[go_sem];first|exact qj|apply qg)
            |with_reducible first|intro _|apply aiA
           all_goals try exact clz
         ·have kK:(w.unit<0)=False:=eqf (by first|exact gK|omega);have kKb:(0≤w.unit)=True:=eqt (by first|exact gK|omega);have hV:R=0:=by rw[hR];(repeat' split)<;>first|rfl|(exfalso;omega)
          rw[hV];refine acO zK ?_;simp (disch:=omega) only[jD,coC,wdC,qO,qu,k0,kB,kC,kD,kG,kH,go_sem]
          repeat' first
           |(refine cA (cF _) flk ?_;simp (disch:=omega) only[kI,kJ,kK,kKb,go_sem])
           |(apply qb;exact rvk;simp only[go_sem];first|exact qj|apply qg)
           |with_reducible first|intro _|apply aiA
          all_goals try exact clz
       ·have kI:(p=w.unit)=False:=eqf (by first|exact gI|omega);have hV:R=20:=by rw[hR];(repeat' split)<;>first|rfl|(exfalso;omega)
        rw[hV];refine acO zK ?_;simp (disch:=omega) only[jD,coC,wdC,qO,qu,k0,kB,kC,kD,kG,kH,go_sem]
        repeat' first
         |(refine cA (cF _) flk ?_;simp (disch:=omega) only[kI,go_sem])
         |(apply qb;exact rvk;simp only[go_sem];first|exact qj|apply qg)
         |with_reducible first|intro _|apply aiA
        all_goals try exact clz
 |false=>
  simp only[true_and]at hR
  by_cases gB:64<w.text.length
  ·have kB:((64:Int)<w.text.length)=True:=eqt (by first|exact gB|omega);have hV:R=11:=by rw[hR];(repeat' split)<;>first|rfl|(exfalso;omega)
   rw[hV];refine acO zK ?_;simp (disch:=omega) only[jD,coC,wdC,qO,qu,k0,kB,go_sem]
   repeat' first
    |(apply qb;exact rvk;simp only[go_sem];exact qj)
  ·have kB:((64:Int)<w.text.length)=False:=eqf (by first|exact gB|omega)
   by_cases gC:w.col<0
   ·have kC:(w.col<0)=True:=eqt (by first|exact gC|omega);have hV:R=19:=by rw[hR];(repeat' split)<;>first|rfl|(exfalso;omega)
    rw[hV];refine acO zK ?_;simp (disch:=omega) only[jD,coC,wdC,qO,qu,k0,kB,kC,go_sem]
    repeat' first
     |(apply qb;exact rvk;simp only[go_sem];exact qj)
   ·have kC:(w.col<0)=False:=eqf (by first|exact gC|omega);have eF:fnR l w.col=p:=by unfold fnR;rw[ine gC,hp]
    have eE:fnE w.col=0:=ine gC;simp only[eF,eE]at cF
    by_cases gD:(x.col.length:Int)≤w.col
    ·have kD:((x.col.length:Int)≤w.col)=True:=eqt (by first|exact gD|omega);have hV:R=19:=by rw[hR];(repeat' split)<;>first|rfl|(exfalso;omega)
     rw[hV];refine acO zK ?_;simp (disch:=omega) only[jD,coC,wdC,qO,qu,k0,kB,kC,kD,go_sem]
     repeat' first
      |(apply qb;exact rvk;simp only[go_sem];exact qj)
      |with_reducible apply aiA
     all_goals try exact clz
    ·have kD:((x.col.length:Int)≤w.col)=False:=eqf (by first|exact gD|omega)
     by_cases gF:w.col<bef.col
     ·have kF:(w.col<bef.col)=True:=eqt (by first|exact gF|omega);have hV:R=19:=by rw[hR];(repeat' split)<;>first|rfl|(exfalso;omega)
      rw[hV];refine acO zK ?_;simp (disch:=omega) only[jD,coC,wdC,qO,qu,k0,kB,kC,kD,kF,go_sem]
      repeat' first
       |(apply qb;exact rvk;simp only[go_sem];exact qj)
       |with_reducible apply aiA
      all_goals try exact clz
     ·have kF:(w.col<bef.col)=False:=eqf (by first|exact gF|omega)
      by_cases gG:w.unit< -1
      ·have kG:(w.unit< -1)=True:=eqt (by first|exact gG|omega);have hV:R=20:=by rw[hR];(repeat' split)<;>first|rfl|(exfalso;omega)
       rw[hV];refine acO zK ?_;simp (disch:=omega) only[jD,coC,wdC,qO,qu,k0,kB,kC,kD,kF,kG,go_sem]
       repeat' first
        |(apply qb;exact rvk;simp only[go_sem];exact qj)
        |with_reducible apply aiA
       all_goals try exact clz
      ·have kG:(w.unit< -1)=False:=eqf (by first|exact gG|omega)
       by_cases gH:(l.length:Int)≤w.unit
       ·have kH:((l.length:Int)≤w.unit)=True:=eqt (by first|exact gH|omega);have hV:R=20:=by rw[hR];(repeat' split)<;>first|rfl|(exfalso;omega)
        rw[hV];refine acO zK ?_;simp (disch:=omega) only[jD,coC,wdC,qO,qu,k0,kB,kC,kD,kF,kG,kH,go_sem]
        repeat' first
         |(apply qb;exact rvk;simp only[go_sem];exact qj)
         |with_reducible apply aiA
        all_goals try exact clz
       ·have kH:((l.length:Int)≤w.unit)=False:=eqf (by first|exact gH|omega)
        by_cases gI:p=w.unit
        ·have kI:(p=w.unit)=True:=eqt (by first|exact gI|omega)
         by_cases gJ:w.dec< -1
         ·have kJ:(w.dec< -1)=True:=eqt (by first|exact gJ|omega);have hV:R=2:=by rw[hR];(repeat' split)<;>first|rfl|(exfalso;omega)
          rw[hV];refine acO zK ?_;simp (disch:=omega) only[jD,coC,wdC,qO,qu,k0,kB,kC,kD,kF,kG,kH,go_sem]
          repeat' first
           |(refine cA (cF _) flk ?_;simp (disch:=omega) only[kI,kJ,go_sem])
           |(apply qb;exact rvk;simp only[go_sem];exact qj)
           |with_reducible apply aiA
          all_goals try exact clz
         ·have kJ:(w.dec< -1)=False:=eqf (by first|exact gJ|omega)
          by_cases gK:w.unit<0
          ·have kK:(w.unit<0)=True:=eqt (by first|exact gK|omega);have kKb:(0≤w.unit)=False:=eqf (by first|exact gK|omega)
           by_cases gL:w.dec= -1
           ·have kL:(w.dec= -1)=True:=eqt (by first|exact gL|omega);have hV:R=0:=by rw[hR];(repeat' split)<;>first|rfl|(exfalso;omega)
            rw[hV];refine acO zK ?_;simp (disch:=omega) only[jD,coC,wdC,qO,qu,k0,kB,kC,kD,kF,kG,kH,go_sem]
            repeat' first
             |(refine cA (cF _) flk ?_;simp (disch:=omega) only[kI,kJ,kK,kKb,kL,go_sem])
             |(apply qb;exact rvk;simp only[go_sem];first|exact qj|apply qg)
             |with_reducible first|intro _|apply aiA
            all_goals try exact clz
           ·have kL:(w.dec= -1)=False:=eqf (by first|exact gL|omega);have hV:R=2:=by rw[hR];(repeat' split)<;>first|rfl|(exfalso;omega)
            rw[hV];refine acO zK ?_;simp (disch:=omega) only[jD,coC,wdC,qO,qu,k0,kB,kC,kD,kF,kG,kH,go_sem]
            repeat' first
             |(refine cA (cF _) flk ?_;simp (disch:=omega) only[kI,kJ,kK,kKb,kL,go_sem])
             |(apply qb;exact rvk;simp only[go_sem];exact qj)
             |with_reducible apply aiA
            all_goals try exact clz
          ·have kK:(w.unit<0)=False:=eqf (by first|exact gK|omega);have kKb:(0≤w.unit)=True:=eqt (by first|exact gK|omega)
           by_cases gO:w.unit=bef.unit
           ·have kO:(w.unit=bef.unit)=True:=eqt (by first|exact gO|omega)
            by_cases gP:w.dec=bef.dec
            ·have kP:(w.dec=bef.dec)=True:=eqt (by first|exact gP|omega);have hV:R=0:=by rw[hR];(repeat' split)<;>first|rfl|(exfalso;omega)
             rw[hV];refine acO zK ?_;simp (disch:=omega) only[jD,coC,wdC,qO,qu,k0,kB,kC,kD,kF,kG,kH,go_sem]
             repeat' first
              |(refine cA (cF _) flk ?_;simp (disch:=omega) only[kI,kJ,kK,kKb,kO,kP,go_sem])
              |(apply qb;exact rvk;simp only[go_sem];first|exact qj|apply qg)
              |with_reducible first|intro _|apply aiA
             all_goals try exact clz
            ·have kP:(w.dec=bef.dec)=False:=eqf (by first|exact gP|omega);have hV:R=2:=by rw[hR];(repeat' split)<;>first|rfl|(exfalso;omega)
             rw[hV];refine acO zK ?_;simp (disch:=omega) only[jD,coC,wdC,qO,qu,k0,kB,kC,kD,kF,kG,kH,go_sem]
             repeat' first
              |(refine cA (cF _) flk ?_;simp (disch:=omega) only[kI,kJ,kK,kKb,kO,kP,go_sem])
              |(apply qb;exact rvk;simp only[go_sem];first|exact qj|apply qg)
              |with_reducible first|intro _|apply aiA
             all_goals try exact clz
           ·have kO:(w.unit=bef.unit)=False:=eqf (by first|exact gO|omega);have hV:R=0:=by rw[hR];(repeat' split)<;>first|rfl|(exfalso;omega)
            rw[hV];refine acO zK ?_;simp (disch:=omega) only[jD,coC,wdC,qO,qu,k0,kB,kC,kD,kF,kG,kH,go_sem]
            repeat' first
             |(refine cA (cF _) flk ?_;simp (disch:=omega) only[kI,kJ,kK,kKb,kO,go_sem])
             |(apply qb;exact rvk;simp only[go_sem];first|exact qj|apply qg)
             |with_reducible first|intro _|apply aiA
            all_goals try exact clz
        ·have kI:(p=w.unit)=False:=eqf (by first|exact gI|omega);have hV:R=20:=by rw[hR];(repeat' split)<;>first|rfl|(exfalso;omega)
         rw[hV];refine acO zK ?_;simp (disch:=omega) only[jD,coC,wdC,qO,qu,k0,kB,kC,kD,kF,kG,kH,go_sem]
         repeat' first
          |(refine cA (cF _) flk ?_;simp (disch:=omega) only[kI,go_sem])
          |(apply qb;exact rvk;simp only[go_sem];exact qj)
          |with_reducible apply aiA
         all_goals try exact clz
section
variable {x : Co} {k s : Nat}
theorem qBe(h:List AObj)(ho:CoOk x)(hk:k<x.col.length)(hs:s<x.sig.length):ACalls Tryz.prog 300 [.agg (coC x),.int .i64 (k:Int),.int .i64 (s:Int)] h (.tup [.str ((clT x k s).getD []),.bool (clT x k s).isSome]) h:=by
 have hcl:=ho.cl k hk;have hce:=ho.ce k hk s hs;have htn:=ho.tn;unfold clT;obtain⟨c,hc⟩: ∃c,c=x.col.getD k []:=⟨_,rfl⟩
 have ec:=hc.symm;rw[ec]at hcl hce ⊢;obtain⟨t,ht⟩: ∃t,t=c.getD s 0:=⟨_,rfl⟩
 have et:=ht.symm;rw[et]at hce ⊢;obtain⟨l,hl⟩: ∃l,l=x.tok.getD s []:=⟨_,rfl⟩
 have el:=hl.symm;rw[el]at hce ⊢;have k0:(0≤(k:Int))=True:=eqt (by omega);have k1:((k:Int)<x.col.length)=True:=eqt (by omega);have k2:((s:Int)<c.length)=True:=eqt (by omega);have k3:((s:Int)<x.tok.length)=True:=eqt (by omega);have k4:(0≤(s:Int))=True:=eqt (by omega)
 by_cases g:t<0
 ·have k5:(t<0)=True:=eqt g;rw[ipo g];refine acO qrL ?_;simp (disch:=omega) only[qsT,coC,qu,qn,k0,k1,k2,k4,k5,ec,et,go_sem]
  repeat' first
   |(apply qb;exact rvk;simp only[go_sem];exact qj)
   |with_reducible apply aiA
  all_goals try exact clz
 ·have k5:(t<0)=False:=eqf g;rw[ine g];have k6:(t<l.length)=True:=eqt (by rcases hce with e|e;omega;omega);have k7:(0≤t)=True:=eqt (by omega);obtain⟨w,hw⟩: ∃w,w=l.getD t.toNat default:=⟨_,rfl⟩
  have ew:=hw.symm;rw[ew];refine acO qrL ?_;simp (disch:=omega) only[qsT,coC,qu,qn,qt,jS,tkC,k0,k1,k2,k3,k4,k5,k6,k7,ec,et,el,ew,go_sem]
  repeat' first
   |(apply qb;exact rvk;simp only[go_sem];exact qj)
   |with_reducible apply aiA
  all_goals try exact clz
theorem cmP(h:List AObj)(ho:CoOk x)(hk:k<x.col.length):ACalls Tryz.prog 278 [.agg (coC x),.int .i64 (k:Int)] h (.bool (cmB x k)) h:=by
 have hsg:=ho.sg;obtain⟨R,hR⟩: ∃R,R=cmB x k:=⟨_,rfl⟩
 rw[←hR];unfold cmB at hR;have c0:=fun h=>qBe (x:=x) (k:=k) (s:=0) h ho hk hsg.1
 obtain⟨o0,ho0⟩: ∃o0,o0=clT x k 0:=⟨_,rfl⟩
 rw[←ho0]at hR c0;have ez:((0:Nat):Int)=0:=rfl;rw[ez]at c0;have zl: ∀g,valL g .len [strs x.sig]= .int .i64 x.sig.length:=fun _=>rfl
 have zo: ∀g,okL g .len [strs x.sig]=True:=fun _=>eqt trivial
 unfold coC at c0;refine acO qyM ?_;simp (disch:=omega) only[qxa,coC,go_sem]
 repeat' first
  |(refine cA (c0 _) flk ?_;simp (disch:=omega) only[zl,zo,go_sem])
  |with_reducible apply aiA
 all_goals try exact clz
 refine qp (T:=fun i:Nat=>qQ 41 [(1,.int .i64 (k:Int)),(2,.op h.length 1 0),(5,.str (o0.getD [])),(6,.bool o0.isSome),(18,.int .i64 x.sig.length),(19,.int .i64 i)]) (H:=fun _=>h++ [.mem 1 26 (coC x)])
  (inv:=fun i=>i≤x.sig.length∧ ∀j,j<i→(decide (clT x k j=none)|| !decide (clT x k j=o0))=false) (m:=fun i=>x.sig.length-i) 0 ⟨nzl _,fun j hj=>absurd hj (nnz j)⟩ (Wk.temps ?_) ?_
 ·(simp only[go_sem,qi,qe,qa,qh];try (repeat' first|(with_reducible apply aiA)|(apply qg;omega)|(apply qf;rfl)|exact qj))
 rintro i ⟨i1,i2⟩ K hK
 by_cases hi:i<x.sig.length
 ·have k1:((i:Int)<x.sig.length)=True:=eqt (by omega);have c1:=fun h=>qBe (x:=x) (k:=k) (s:=i) h ho hk hi
  have hno:(decide (clT x k i=none)|| !decide (clT x k i=o0))=true→R=false:=fun hx=>by rw[hR,qy.2 ⟨i,hi,hx⟩];rfl
  have hS:(decide (clT x k i=none)|| !decide (clT x k i=o0))=false→ ∀j,j<i+1→(decide (clT x k j=none)|| !decide (clT x k j=o0))=false:=fun hx j hj=>by
   by_cases e:j=i
   ·subst e;exact hx
   ·exact i2 j (by omega)
  obtain⟨o,hox⟩: ∃o,o=clT x k i:=⟨_,rfl⟩
  rw[←hox]at hno hS;rw[←hox]at c1;unfold coC at c1;cases o0 with
  |none=>
   have hV:R=false:=hno (by cases o<;>simp);rw[hV];simp (disch:=omega) only[coC,k1,Option.isSome_none,Option.getD_none,go_sem]
   repeat' first
    |(refine cA (c1 _) flk ?_;simp (disch:=omega) only[go_sem])
    |(apply qb;exact rvk;simp only[go_sem];exact qj)
    |with_reducible apply aiA
   all_goals try exact clz
  |some w0=>
  cases o with
  |none=>
   rw[hno rfl];simp (disch:=omega) only[coC,k1,Option.isSome_some,Option.getD_some,go_sem]
   repeat' first
    |(refine cA (c1 _) flk ?_;simp (disch:=omega) only[Option.isSome_none,Option.getD_none,Option.getD_some,go_sem])
    |(apply qb;exact rvk;simp only[go_sem];exact qj)
    |with_reducible apply aiA
   all_goals try exact clz
  |some w=>
  by_cases g:w=w0
  ·have q1:(w=w0)=True:=eqt g;simp (disch:=omega) only[coC,k1,Option.isSome_some,Option.getD_some,go_sem]
   repeat' first
    |(refine cA (c1 _) flk ?_;simp (disch:=omega) only[q1,Option.isSome_some,Option.getD_some,go_sem])
    |with_reducible apply aiA
   all_goals try exact clz
   refine hK _ _ (i+1) ⟨hi,hS (by rw[g];simp)⟩ (by omega) (Wk.temps ?_)
   (simp only[go_sem,qi,qe,qa,qh];try (repeat' first|(with_reducible apply aiA)|(apply qg;omega)|(apply qf;rfl)|exact qj))
  ·have q1:(w=w0)=False:=eqf g;rw[hno (by simp[g])];simp (disch:=omega) only[coC,k1,Option.isSome_some,Option.getD_some,go_sem]
   repeat' first
    |(refine cA (c1 _) flk ?_;simp (disch:=omega) only[q1,Option.isSome_some,Option.getD_some,go_sem])
    |(apply qb;exact rvk;simp only[go_sem];exact qj)
    |with_reducible apply aiA
   all_goals try exact clz
 ·have k1:((i:Int)<x.sig.length)=False:=eqf (by omega);have hV:R=true:=by rw[hR,ql.2 fun j hj=>i2 j (by omega)];rfl
  rw[hV];simp (disch:=omega) only[coC,k1,go_sem]
  repeat' first
   |(apply qb;exact rvk;simp only[go_sem];exact qj)
end
theorem rdP(x:Co)(f t s:Nat)(h:List AObj)(ho:CoOk x)(ht:t≤x.col.length)(hs:s<x.sig.length)(hn:x.col.length≤1000000000):ACalls Tryz.prog 274 [.agg (coC x),.int .i64 (f:Int),.int .i64 (t:Int),.int .i64 (s:Int)] h (strs (rdG x s f (t-f))) h:=by
 refine acO qyI ?_;simp (disch:=omega) only[qw6,coC,go_sem];refine qp (T:=fun i:Nat×Nat×AObj=>qQ 32 [(2,.int .i64 (t:Int)),(3,.int .i64 (s:Int)),(4,.op h.length 1 0),(9,.osl (h.length+2) i.2.1 1 0 (rdG x s f i.1).length),(10,.int .i64 ((f+i.1:Nat):Int))])
  (H:=fun i=>h++ [.mem 1 26 (coC x),.emp 1,zP i.2.1 9 (jn (rdG x s f i.1)),i.2.2,.emp 0])
  (inv:=fun i=>i.1≤t-f∧qH [i.2.2] 0=true) (m:=fun i=>t-f-i.1) (0,1,.emp 0) ⟨nzl _,rfl⟩ (Wk.temps ?_) ?_
 ·(simp only[rdG,List.length_nil,Nat.add_zero,go_sem,qi,qe,qa,qh];try (repeat' first|(with_reducible apply aiA)|(apply qg;omega)|(apply qf;rfl)|exact qj))
 rintro⟨d,v,O⟩ ⟨i1,i2⟩ K hK;simp only at i1 i2 hK;have i2': ∀m,qH (O::m) 0=true:=fun _=>i2
 have hln:=qek x s f d;have hst:rdG x s f (d+1)=rdG x s f d++(clT x (f+d) s).toList:=rfl;obtain⟨L,hL⟩: ∃L,L=rdG x s f d:=⟨_,rfl⟩
 rw[←hL]at hln hst;have eL:=hL.symm;have eC:=jR L
 by_cases hi:f+d<t
 ·have k1:(((f+d:Nat):Int)<t)=True:=eqt (by omega);have c1:=fun h=>qBe (x:=x) (k:=f+d) (s:=s) h ho (by omega) hs
  obtain⟨o,hox⟩: ∃o,o=clT x (f+d) s:=⟨_,rfl⟩
  rw[←hox]at hst c1;unfold coC at c1;have eTk:List.take L.length (jn L)=jn L:=ltl (by omega);cases o with
  |none=>
   have hst:rdG x s f (d+1)=L:=by rw[hst];simp
   simp (disch:=omega) only[coC,k1,eL,go_sem]
   repeat' first
    |(refine cA (c1 _) flk ?_;simp (disch:=omega) only[i2',Option.isSome_none,Option.getD_none,go_sem])
    |with_reducible apply aiA
   all_goals try exact clz
   refine hK _ _ (d+1,v,O) ⟨by omega,i2⟩ (by simp only;omega) ?_;simp only[hst];refine Wk.temps ?_
   (simp only[go_sem,qi,qe,qa,qh];try (repeat' first|(with_reducible apply aiA)|(apply qg;omega)|(apply qf;rfl)|exact qj))
  |some w=>
   have hst:rdG x s f (d+1)=L++ [w]:=hst;simp (disch:=omega) only[coC,k1,eL,Option.isSome_some,Option.getD_some,go_sem]
   repeat' first
    |(refine cA (c1 _) flk ?_;simp (disch:=omega) only[i2',eC,eTk,Nat.mul_one,Option.isSome_some,Option.getD_some,go_sem])
    |with_reducible apply aiA
   all_goals try exact clz
   have eA:jn L++ [AV.str w]=jn (rdG x s f (d+1)):=by rw[hst,qcA];rfl
   try rw[eA]
   refine hK _ _ (d+1,v+1,.mem (qr (some O)+1) 9 [.str w]) ⟨by omega,rfl⟩ (by simp only;omega) ?_;simp only[hst,List.length_append,List.length_cons,List.length_nil];refine Wk.temps ?_
   (simp only[go_sem,qi,qe,qa,qh];try (repeat' first|(with_reducible apply aiA)|(apply qg;omega)|(apply qf;rfl)|exact qj))
 ·have k1:(((f+d:Nat):Int)<t)=False:=eqf (by omega);obtain rfl:d=t-f:=by omega
  rw[eL];simp (disch:=omega) only[k1,go_sem]
  repeat' first
   |(apply qb;exact rvk;simp only[go_sem])
  exact qcz (fun _=>rfl) rfl
def rnX(x:Co):List (List AV):=(qgi (cmB x) x.col.length).map fun r=> [.int .i64 (r.1:Int),.int .i64 (r.2:Int)]
theorem qD4(x:Co)(h:List AObj):ACalls Tryz.prog 233 [.agg (coC x)] h (.fn (.func 277) [] [.ip (coC x)]) h:=by
 unfold coC;refine acO qyv ?_;simp (disch:=omega) only[qwW,go_sem]
 repeat' first
  |(apply qb;exact rvk;simp only[go_sem];exact qj)
theorem qD2(u:Un)(f t:Int)(h:List AObj):ACalls Tryz.prog 234 [.agg (unC u),.ip [.int .i64 f],.ip [.int .i64 t]] h (.bool (decide (u.frm≤f)&&decide (t≤u.to))) h:=by
 by_cases g:u.frm≤f
 ·have k1:(u.frm≤f)=True:=eqt g;rw[dqt g,Bool.true_and];refine acO qrE ?_;simp (disch:=omega) only[qsM,unC,k1,go_sem]
  repeat' first
   |(apply qb;exact rvk;simp only[go_sem];exact qj)
   |with_reducible apply aiA
  all_goals try exact clz
 ·have k1:(u.frm≤f)=False:=eqf g;rw[dqf g,Bool.false_and];refine acO qrE ?_;simp (disch:=omega) only[qsM,unC,k1,go_sem]
  repeat' first
   |(apply qb;exact rvk;simp only[go_sem];exact qj)
   |with_reducible apply aiA
  all_goals try exact clz
theorem qzy{p:Nat→Bool}{n f t:Nat}(h1:f≤t)(h2:t≤n)(h3: ∀j,f≤j→j<t→p j=false)(h4:t<n→p t=true):nxt p (n-f) f=t:=by
 obtain⟨a1,a2,a3,a4⟩:=qee p (n-f) f;rcases Nat.lt_trichotomy (nxt p (n-f) f) t with h|h|h
 ·have:=a4 (by omega)
  rw[h3 _ a1 h]at this;cases this
 ·exact h
 ·have:=h4 (by omega)
  rw[a3 t h1 h]at this;cases this
theorem qzT{x:Co}{pre rest:List (Nat×Nat)}{r:Nat×Nat}(h:qgi (cmB x) x.col.length=pre++r::rest): ∃g:pre.length<(rnX x).length,(rnX x)[pre.length]= [.int .i64 (r.1:Int),.int .i64 (r.2:Int)]:=by
 unfold rnX;refine⟨by rw[h];simp,?_⟩;simp only[h,List.getElem_map];rw[List.getElem_append_right (nlr _)];simp
structure RnS where
 f:Nat
 D:Nat
 pre:List (Nat×Nat)
 hh:List AObj
theorem itR(x:Co)(ho:CoOk x)(hn:x.col.length≤1000000000):qv1 Tryz.prog 277 [.ip (coC x)] (rnX x):=by
 intro h ts LI S E hS hE body start hts;have hcom:=fun k h hk=>cmP (x:=x) (k:=k) h ho hk
 obtain⟨p,hp⟩: ∃p,p=cmB x:=⟨_,rfl⟩
 have hxl:(rnX x).length=(qgi p x.col.length).length:=by rw[hp];simp[rnX]
 have hat:= @qzT x;rw[←hp]at hat;rw[←hp]at hcom;refine acQ qyL ?_;simp (disch:=omega) only[qw9,coC,go_sem];refine qp (T:=fun i:RnS=>qQ 36 [(0,.yld h.length),(1,.ip (coC x)),(3,.int .i64 i.f)]) (H:=fun i=>i.hh++ [.lp .ready ts LI])
  (inv:=fun i=>i.f≤x.col.length+1∧x.col.length-i.f<i.D∧qgi p x.col.length=i.pre++kY p x.col.length i.D i.f∧S i.pre.length i.hh) (m:=fun i=>x.col.length+1-i.f) ⟨0,x.col.length+1,[],h⟩ ⟨nzl _,by simp only;omega,rfl,start⟩ (Wk.temps ?_) ?_
 ·(simp only[coC,go_sem,qi,qe,qh];try (repeat' first|(with_reducible apply aiA)|(apply qg;omega)|(apply qf;rfl)|exact qj))
 rintro⟨f,D,pre,hh⟩ ⟨i1,i2,i3,i4⟩ K hK;simp only at i1 i2 i3 i4 hK;obtain⟨hlen,hlow⟩:=hS _ _ i4;have hb:(h++ [AObj.lp LS.ready ts LI]).length=(hh++ [AObj.lp LS.ready ts LI]).length:=by simp[hlen]
 by_cases hi:f<x.col.length
 ·have q0:((f:Int)<x.col.length)=True:=eqt (by omega);obtain⟨D',rfl⟩: ∃D',D=D'+1:=⟨D-1,by omega⟩
  have hD:kY p x.col.length (D'+1) f=(if f<nxt p (x.col.length-f) f then [(f,nxt p (x.col.length-f) f)] else [])++kY p x.col.length D' (nxt p (x.col.length-f) f+1):=by
   conv=>lhs;unfold kY
   rw[ine (by omega)]
  simp (disch:=omega) only[coC,qu,q0,go_sem]
  repeat' first
   |with_reducible apply aiA
  all_goals try exact clz
  refine qp (T:=fun t:Nat=>qQ 36 [(0,.yld h.length),(1,.ip (coC x)),(3,.int .i64 f),(4,.int .i64 t)]) (H:=fun _=>hh++ [.lp .ready ts LI])
   (inv:=fun t=>f≤t∧t≤x.col.length∧ ∀j,f≤j→j<t→p j=false) (m:=fun t=>x.col.length-t) f ⟨nlr _,by omega,fun j h1 h2=>by omega⟩ (Wk.temps ?_) ?_
  ·(simp only[coC,go_sem,qi,qe,qa,qh];try (repeat' first|(with_reducible apply aiA)|(apply qg;omega)|(apply qf;rfl)|exact qj))
  rintro t ⟨t1,t2,t3⟩ K2 hK2;have fin:(t<x.col.length→p t=true)→kY p x.col.length (D'+1) f=(if f<t then [(f,t)] else [])++kY p x.col.length D' (t+1):=fun h4=>by
   rw[hD,qzy t1 t2 t3 h4]
  have hend: ∀hh',kY p x.col.length (D'+1) f=(if f<t then [(f,t)] else [])++kY p x.col.length D' (t+1)→S (pre++if f<t then [(f,t)] else []).length hh'→qgi p x.col.length=(pre++if f<t then [(f,t)] else [])++kY p x.col.length D' (t+1):=fun hh' h1 _=>by
   rw[i3,h1,List.append_assoc]
  by_cases ht:t<x.col.length
  ·have q1:((t:Int)<x.col.length)=True:=eqt (by omega);have c1:=fun h=>hcom t h ht
   cases hpt:p t with
   |false=>
    rw[hpt]at c1;unfold coC qu at c1;simp (disch:=omega) only[coC,qu,q1,go_sem]
    repeat' first
     |(refine cG (fun e=>c1 _) flk ?_;simp (disch:=omega) only[go_sem])
     |with_reducible apply aiA
    all_goals try exact clz
    refine hK2 _ _ (t+1) ⟨by omega,ht,fun j h1 h2=> ?_⟩ (by omega) (Wk.temps ?_)
    ·by_cases e:j=t
     ·subst e;exact hpt
     ·exact t3 j h1 (by omega)
    ·(simp only[coC,go_sem,qi,qe,qa,qh];try (repeat' first|(with_reducible apply aiA)|(apply qg;omega)|(apply qf;rfl)|exact qj))
   |true=>
    rw[hpt]at c1;have hf:=fin fun _=>hpt
    unfold coC qu at c1
    by_cases gt:f<t
    ·have q2:((f:Int)<t)=True:=eqt (by omega);rw[ipo gt]at hf;rw[hf]at i3;obtain⟨hdl,hxx⟩:=hat (pre:=pre) (r:=(f,t)) (rest:=kY p x.col.length D' (t+1)) i3;have hb':=body pre.length hh [] hdl i4;rw[hxx]at hb';have i5:qgi p x.col.length=(pre++ [(f,t)])++kY p x.col.length D' (t+1):=by rw[i3];simp
     simp (disch:=omega) only[coC,qu,q1,go_sem]
     repeat' first
      |(refine cG (fun e=>c1 _) flk ?_;simp (disch:=omega) only[q2,go_sem])
      |with_reducible apply aiA
     all_goals try exact clz
     ·exact⟨.ready,ts,LI,kS hlen⟩
     ·refine kM.mono ?_ hb';rintro v h' ⟨hh',⟨rfl,hn',rfl⟩|⟨st,rfl,hs',rfl⟩⟩
      ·simp (disch:=omega) only[go_sem];refine hK _ _ ⟨t+1,D',pre++ [(f,t)],hh'⟩ ⟨by simp only;omega,by simp only;omega,i5,by simp only[List.length_append,List.length_cons,List.length_nil];exact hn'⟩ (by simp only;omega) (Wk.temps ?_)
       (simp only[coC,go_sem,qi,qe,qa,qh];try (repeat' first|(with_reducible apply aiA)|(apply qg;omega)|(apply qf;rfl)|exact qj))
      ·simp (disch:=omega) only[go_sem];obtain⟨r1,r2⟩:=(hE _ _ hs').ret (L:=LI) st hts;exact kR trivial r1 r2 ⟨_,.inr ⟨st,hs',rfl⟩⟩ (qj)
    ·have q2:((f:Int)<t)=False:=eqf (by omega);rw[ine gt,List.nil_append]at hf;rw[hf]at i3;simp (disch:=omega) only[coC,qu,q1,go_sem]
     repeat' first
      |(refine cG (fun e=>c1 _) flk ?_;simp (disch:=omega) only[q2,go_sem])
      |with_reducible apply aiA
     all_goals try exact clz
     refine hK _ _ ⟨t+1,D',pre,hh⟩ ⟨by simp only;omega,by simp only;omega,i3,i4⟩ (by simp only;omega) (Wk.temps ?_)
     (simp only[coC,go_sem,qi,qe,qa,qh];try (repeat' first|(with_reducible apply aiA)|(apply qg;omega)|(apply qf;rfl)|exact qj))
  ·have q1:((t:Int)<x.col.length)=False:=eqf (by omega);have hf:=fin fun hx=>absurd hx ht
   by_cases gt:f<t
   ·have q2:((f:Int)<t)=True:=eqt (by omega);rw[ipo gt]at hf;rw[hf]at i3;obtain⟨hdl,hxx⟩:=hat (pre:=pre) (r:=(f,t)) (rest:=kY p x.col.length D' (t+1)) i3;have hb':=body pre.length hh [] hdl i4;rw[hxx]at hb';have i5:qgi p x.col.length=(pre++ [(f,t)])++kY p x.col.length D' (t+1):=by rw[i3];simp
    simp (disch:=omega) only[coC,qu,q1,go_sem]
    repeat' first
     |(refine qk ( .bool false) ?_;simp (disch:=omega) only[q2,go_sem])
     |with_reducible apply aiA
    all_goals try exact clz
    ·exact⟨.ready,ts,LI,kS hlen⟩
    ·refine kM.mono ?_ hb';rintro v h' ⟨hh',⟨rfl,hn',rfl⟩|⟨st,rfl,hs',rfl⟩⟩
     ·simp (disch:=omega) only[go_sem];refine hK _ _ ⟨t+1,D',pre++ [(f,t)],hh'⟩ ⟨by simp only;omega,by simp only;omega,i5,by simp only[List.length_append,List.length_cons,List.length_nil];exact hn'⟩ (by simp only;omega) (Wk.temps ?_)
      (simp only[coC,go_sem,qi,qe,qa,qh];try (repeat' first|(with_reducible apply aiA)|(apply qg;omega)|(apply qf;rfl)|exact qj))
     ·simp (disch:=omega) only[go_sem];obtain⟨r1,r2⟩:=(hE _ _ hs').ret (L:=LI) st hts;exact kR trivial r1 r2 ⟨_,.inr ⟨st,hs',rfl⟩⟩ (qj)
   ·exact absurd (show f<t by omega) gt
 ·have q0:((f:Int)<x.col.length)=False:=eqf (by omega);have hD:kY p x.col.length D f= []:=by
   cases D with
   |zero=>rfl
   |succ D=>unfold kY;rw[ipo (by omega)]
  rw[hD,List.append_nil]at i3;simp (disch:=omega) only[coC,qu,q0,go_sem]
  repeat' first
   |with_reducible apply aiA
  all_goals try exact clz
  obtain⟨r1,r2⟩:=(hS _ _ i4).ret (L:=LI) .ready hts;exact kR trivial r1 r2 ⟨hh,.inl ⟨by rw[hxl,i3];exact i4,rfl⟩⟩ (qj)
structure qwi (l:List Un):Prop where
 n:l.length≤1000000000
 rd: ∀i,(l.getD i default).rds.length≤1000000000
 sr: ∀i j,((l.getD i default).rds.getD j default).src.length≤1000000000
 wd: ∀i j,((l.getD i default).rds.getD j default).words.length≤1000000000
structure qsi (L:List Rd):Prop where
 n:L.length≤1000000000
 sr: ∀j,(L.getD j default).src.length≤1000000000
 wd: ∀j,(L.getD j default).words.length≤1000000000
theorem qCX(a b:List Str)(h:List AObj)(h1:a.length≤1000000000)(h2:b.length≤1000000000):ACalls Tryz.prog 53 [strs a,strs b] h (.bool (decide (a=b))) h:=by
 have c:=qxQ a b.length (fun j=>b.getD j []) h h1 h2;have e:decide (a.length=b.length∧ ∀i,i<a.length→a.getD i []=b.getD i [])=decide (a=b):=decide_eq_decide.2 (jd ([]:Str)).symm;rw[e]at c;exact c
theorem qDA(a b:List Int)(h:List AObj)(h1:a.length≤1000000000)(h2:b.length≤1000000000):ACalls Tryz.prog 40 [qn a,qn b] h (.bool (decide (a=b))) h:=by
 have c:=qCW qBq a.length b.length (fun j=> .i (a.getD j 0)) (fun j=> .i (b.getD j 0)) h (fun _ _ _=>rfl) (by omega) (by omega);simp only[At.v,At.i.injEq]at c;have e:decide (a.length=b.length∧ ∀i,i<a.length→a.getD i 0=b.getD i 0)=decide (a=b):=decide_eq_decide.2 (jd (0:Int)).symm;rw[e]at c;exact c
theorem qB2{r s:Rd}:r=s↔r.words=s.words∧r.src=s.src:=by
 cases r;cases s;simp
theorem qD5(r s:Rd)(h:List AObj)(h1:r.words.length≤1000000000)(h2:s.words.length≤1000000000)(h3:r.src.length≤1000000000)(h4:s.src.length≤1000000000):ACalls Tryz.prog 273 [.agg (rdC r),.agg (rdC s)] h (.bool (decide (r=s))) h:=by
 have c1:=fun h=>qCX r.words s.words h h1 h2
 have c2:=fun h=>qDA r.src s.src h h3 h4
 have e:decide (r=s)=(decide (r.words=s.words)&&decide (r.src=s.src)):=by rw[←Bool.decide_and];exact decide_eq_decide.2 qB2
 rw[e];obtain⟨a,ha⟩: ∃a,a=decide (r.words=s.words):=⟨_,rfl⟩
 obtain⟨b,hb⟩: ∃b,b=decide (r.src=s.src):=⟨_,rfl⟩
 rw[←ha,←hb];simp only[←ha]at c1;simp only[←hb]at c2;cases a with
 |true=>
  rw[Bool.true_and];refine acO qrJ ?_;simp (disch:=omega) only[qsR,rdC,go_sem]
  repeat' first
   |((first|refine cA (c1 _) ?_ ?_|refine cG (fun e=>c2 _) ?_ ?_);exact flk;simp (disch:=omega) only[go_sem])
   |(apply qb;exact rvk;simp only[go_sem];exact qj)
   |with_reducible apply aiA
  all_goals try exact clz
 |false=>
  rw[Bool.false_and];refine acO qrJ ?_;simp (disch:=omega) only[qsR,rdC,go_sem]
  repeat' first
   |(refine qk ( .bool false) ?_;simp (disch:=omega) only[go_sem])
   |(refine cA (c1 _) flk ?_;simp (disch:=omega) only[go_sem])
   |(apply qb;exact rvk;simp only[go_sem];exact qj)
theorem efP(a b:List Rd)(h:List AObj)(za:qsi a)(zb:qsi b):ACalls Tryz.prog 272 [jc a,jc b,.fn (.func 273) [] []] h (.bool (decide (a=b))) h:=by
 have ha:=za.n;have hb:=zb.n;have he:decide (a=b)=decide (a.length=b.length∧ ∀i,i<a.length→a.getD i default=b.getD i default):=decide_eq_decide.2 (jd (default:Rd));obtain⟨R,hR⟩: ∃R,R=decide (a=b):=⟨_,rfl⟩
 rw[←hR]at he ⊢
 by_cases g:a.length=b.length
 case neg=>
  have k1:((a.length:Int)=b.length)=False:=eqf (by omega);rw[dqf (fun hc=>g hc.1)]at he;rw[he];refine acO qrI ?_;simp (disch:=omega) only[qsQ,jc,k1,go_sem]
  repeat' first
   |(apply qb;exact rvk;simp only[go_sem];exact qj)
 have k1:((a.length:Int)=b.length)=True:=eqt (by omega);refine acO qrI ?_;simp (disch:=omega) only[qsQ,jc,k1,go_sem];refine qp (T:=fun i:Nat×AObj×AObj=>qQ 32 [(1,jc b),(2,.fn (.func 273) [] []),(15,jc a),(16,.int .i64 a.length),(17,.int .i64 i.1)]) (H:=fun i=>h++ [i.2.1,i.2.2])
  (inv:=fun i=>i.1≤a.length∧qH [i.2.1] 0=true∧qH [i.2.2] 0=true∧ ∀j,j<i.1→a.getD j default=b.getD j default) (m:=fun i=>a.length-i.1) (0,.emp 0,.emp 0) ⟨nzl _,rfl,rfl,fun j hj=>absurd hj (nnz j)⟩ (Wk.temps ?_) ?_
 ·(simp only[jc,go_sem,qi,qe,qa,qh];try (repeat' first|(with_reducible apply aiA)|(apply qg;omega)|(apply qf;rfl)|exact qj))
 rintro⟨i,O1,O2⟩ ⟨i1,j1,j2,i2⟩ K hK;simp only at i1 j1 j2 i2 hK;have j1': ∀m,qH (O1::m) 0=true:=fun _=>j1
 have j2': ∀m,qH (O2::m) 0=true:=fun _=>j2
 by_cases hi:i<a.length
 ·have k2:((i:Int)<a.length)=True:=eqt (by omega);have k3:((i:Int)<b.length)=True:=eqt (by omega);have c1:=fun h=>qD5 (a.getD i default) (b.getD i default) h (za.wd i) (zb.wd i) (za.sr i) (zb.sr i)
  have hno: ¬a.getD i default=b.getD i default→R=false:=fun hx=>by rw[he];exact dqf fun hc=>hx (hc.2 i hi)
  have hS:a.getD i default=b.getD i default→ ∀j,j<i+1→a.getD j default=b.getD j default:=fun hx j hj=>by
   by_cases e:j=i
   ·subst e;exact hx
   ·exact i2 j (by omega)
  obtain⟨r,hr⟩: ∃r,r=a.getD i default:=⟨_,rfl⟩
  obtain⟨s,hs⟩: ∃s,s=b.getD i default:=⟨_,rfl⟩
  have er:=hr.symm;have es:=hs.symm;rw[er,es]at hno hS;simp only[er,es]at c1;unfold rdC at c1
  by_cases g2:r=s
  ·have k4:decide (r=s)=true:=dqt g2;simp only[k4]at c1;simp (disch:=omega) only[jc,rdC,k2,k3,er,es,j1',j2',go_sem]
   repeat' first
    |(refine qw (c1 _) ?_;simp (disch:=omega) only[go_sem])
    |with_reducible apply aiA
   all_goals try exact clz
   refine hK _ _ (i+1,_,_) ⟨hi,rfl,rfl,hS g2⟩ (by simp only;omega) (Wk.temps ?_)
   (simp only[jc,go_sem,qi,qe,qa,qh];try (repeat' first|(with_reducible apply aiA)|(apply qg;omega)|(apply qf;rfl)|exact qj))
  ·have k4:decide (r=s)=false:=dqf g2;simp only[k4]at c1;rw[hno g2];simp (disch:=omega) only[jc,rdC,k2,k3,er,es,j1',j2',go_sem]
   repeat' first
    |(refine qw (c1 _) ?_;simp (disch:=omega) only[go_sem])
    |(apply qb;exact rvk;simp only[go_sem];exact qj)
    |with_reducible apply aiA
   all_goals try exact clz
 ·have k2:((i:Int)<a.length)=False:=eqf (by omega);rw[he,dqt ⟨g,fun j hj=>i2 j (by omega)⟩];simp (disch:=omega) only[jc,k2,go_sem]
  repeat' first
   |(apply qb;exact rvk;simp only[go_sem];exact qj)
theorem qD6(a b:List Rd)(h:List AObj)(za:qsi a)(zb:qsi b):ACalls Tryz.prog 231 [jc a,jc b] h (.bool (decide (a=b))) h:=by
 have c1:=fun h=>efP a b h za zb
 refine acO qyt ?_;simp (disch:=omega) only[qwU,go_sem]
 repeat' first
  |(refine cA (c1 _) flk ?_;simp (disch:=omega) only[go_sem])
  |(apply qd;exact rvk;simp only[go_sem];exact qj)
theorem qD0(r s:Rd)(h:List AObj)(h1:r.words.length≤1000000000)(h2:s.words.length≤1000000000):ACalls Tryz.prog 276 [.agg (rdC r),.agg (rdC s)] h (.bool (decide (r.words=s.words))) h:=by
 have c1:=fun h=>qCX r.words s.words h h1 h2
 refine acO qyK ?_;simp (disch:=omega) only[qw8,rdC,go_sem]
 repeat' first
  |(refine cA (c1 _) flk ?_;simp (disch:=omega) only[go_sem])
  |(apply qb;exact rvk;simp only[go_sem];exact qj)
theorem fd1(r y:Rd)(h:List AObj)(h1:r.words.length≤1000000000)(h2:y.words.length≤1000000000):ACalls Tryz.prog 301 [.agg (rdC y),.ip [.fn (.func 276) [] []],.ip (rdC r)] h (.bool (decide (r.words=y.words))) h:=by
 have c1:=fun h=>qD0 r y h h1 h2
 unfold rdC at c1;refine acO qyT ?_;simp (disch:=omega) only[qxg,rdC,go_sem]
 repeat' first
  |(refine qw (c1 _) ?_;simp (disch:=omega) only[go_sem])
  |(apply qb;exact rvk;simp only[go_sem];exact qj)
  |with_reducible apply aiA
 all_goals try exact clz
theorem fdP(L:List Rd)(r:Rd)(h:List AObj)(hL:L.length≤1000000000)(h1:r.words.length≤1000000000)(h2: ∀j,(L.getD j default).words.length≤1000000000):ACalls Tryz.prog 275 [jc L,.agg (rdC r),.fn (.func 276) [] []] h (.int .i64 (qjC L r.words)) h:=by
 have c1: ∀k v k2 v2 H,getO k H=some (.mem v 89 (rdC r))→getO k2 H=some (.mem v2 280 [.fn (.func 276) [] []])→
   ACalls Tryz.prog 127 [jc L,.fn (.func 301) [] [.op k2 v2 0,.op k v 0]] H (.int .i64 (qjC L r.words)) H:=fun k v k2 v2 H hk hk2=>by
  have hc:=qU hk;have hc2:=qU hk2;unfold jc qjC;refine qaO qrv L.length (fun j=>rdC (L.getD j default)) (fun j=> .agg (rdC (L.getD j default))) _ [] [.op k2 v2 0,.op k v 0] _ H (fun i _=>⟨rfl,by simp[zZ,rdC],rfl,rfl,rfl⟩) (fun i _=> ?_) (by omega);refine ACalls.borrow ?_ rfl;have e:([AV.agg (rdC (L.getD i default))]++ [AV.op k2 v2 0,AV.op k v 0]).map (rei (fun _=>true) H 8)= [.agg (rdC (L.getD i default)),.ip [.fn (.func 276) [] []],.ip (rdC r)]:=by
   simp only[List.cons_append,List.nil_append,List.map_cons,List.map_nil,rei_op,if_true,hc,hc2,ipOf_some,List.drop_zero,rei_agg];rfl
  rw[List.nil_append,e];exact fd1 r _ _ h1 (h2 i)
 have c2:=c1 h.length 1 (h.length+1) 1 (h++ [.mem 1 89 (rdC r),.mem 1 280 [.fn (.func 276) [] []]]) (by rw[getO_app0];rfl) (by simp only[go_sem]);unfold rdC at c2;refine acO qyJ ?_;simp (disch:=omega) only[qw7,rdC,go_sem]
 repeat' first
  |(refine cA (c2) flk ?_;simp (disch:=omega) only[go_sem])
  |(apply qb;exact rvk;simp only[go_sem];exact qj)
def gnB(sec:Str)(sig:List Str):Bool:=qZ (fun i=>decide (20<(sig.getD i []).length)) sig.length||decide (20<sec.length)
theorem gnP(sec:Str)(sig:List Str)(h:List AObj)(hn:sig.length≤9223372036854775807):ACalls Tryz.prog 150 [.str sec,strs sig] h (.bool (gnB sec sig)) h:=by
 obtain⟨R,hR⟩: ∃R,R=gnB sec sig:=⟨_,rfl⟩
 rw[←hR];unfold gnB at hR;refine acO qx7 ?_;simp (disch:=omega) only[qwC,strs,go_sem];refine qp (T:=fun i:Nat=>qQ 21 [(0,.str sec),(1,strs sig),(5,.int .i64 i)]) (H:=fun _=>h) (inv:=fun i=>i≤sig.length∧ ∀j,j<i→(fun i=>decide (20<(sig.getD i []).length)) j=false) (m:=fun i=>sig.length-i) 0 ⟨nzl _,fun j hj=>absurd hj (nnz j)⟩ (Wk.temps ?_) ?_
 ·(simp only[strs,go_sem,qi,qe,qa,qh];try (repeat' first|(with_reducible apply aiA)|(apply qg;omega)|(apply qf;rfl)|exact qj))
 rintro i ⟨i1,i2⟩ K hK
 by_cases hi:i<sig.length
 ·have k1:((i:Int)<sig.length)=True:=eqt (by omega)
  by_cases g:20<(sig.getD i []).length
  ·have hV:R=true:=by rw[hR,qy.2 ⟨i,hi,dqt g⟩];rfl
   obtain⟨s,hs⟩: ∃s,s=sig.getD i []:=⟨_,rfl⟩
   have es:=hs.symm;rw[es]at g;have k2:((20:Int)<s.length)=True:=eqt (by omega);rw[hV];simp (disch:=omega) only[strs,k1,k2,es,go_sem]
   repeat' first
    |(apply qd;exact rvk;simp only[go_sem];exact qj)
    |with_reducible apply aiA
   all_goals try exact clz
  ·have i3:=jv i2 (dqf g);obtain⟨s,hs⟩: ∃s,s=sig.getD i []:=⟨_,rfl⟩
   have es:=hs.symm;rw[es]at g;have k2:((20:Int)<s.length)=False:=eqf (by omega);simp (disch:=omega) only[strs,k1,k2,es,go_sem]
   repeat' first
    |with_reducible apply aiA
   all_goals try exact clz
   refine hK _ _ (i+1) ⟨hi,i3⟩ (by omega) (Wk.temps ?_)
   (simp only[strs,go_sem,qi,qe,qa,qh];try (repeat' first|(with_reducible apply aiA)|(apply qg;omega)|(apply qf;rfl)|exact qj))
 have k1:((i:Int)<sig.length)=False:=eqf (by omega);rw[ql.2 (fun j hj=>i2 j (by omega)),Bool.false_or]at hR;have e1:decide ((20:Int)<sec.length)=decide (20<sec.length):=decide_eq_decide.2 (by omega);rw[hR,←e1];simp (disch:=omega) only[strs,k1,go_sem]
 repeat' first
  |(apply qd;exact rvk;simp only[go_sem];exact qj)
def qb1(t:Tk):Bool:=decide (12<t.text.length)||(decide (12<t.norm.length)||(decide (20<t.page.length)||decide (20<t.name.length)))
def qdh(i:Nat)(r:List Tk):Bool:=decide (6<r.length)||((decide (4≤i)&&decide (1<r.length))||qZ (fun k=>qb1 (r.getD k default)) r.length)
def prN(L:List (List Tk)):Nat→Nat
 |0=>1
 |i+1=>if i<4 then prN L i*((L.getD i []).length+1) else prN L i
def gtB(L:List (List Tk)):Bool:=qZ (fun i=>qdh i (L.getD i [])) L.length||(decide (400<prN L L.length)||((decide (6<L.length)&&decide (L.length≤32))||decide (34<L.length)))
theorem qzG{L:List (List Tk)}: ∀ {n:Nat},(∀i,i<n→(L.getD i []).length≤6)→prN L n≤7^min n 4:=by
 intro n
 induction n with
 |zero=>intro _;exact nlr _
 |succ n ih=>
  intro h;have h1:=ih fun i hi=>h i (by omega)
  have h2:=h n (by omega);unfold prN;split
  ·rename_i g;rw[show min n 4=n by omega]at h1;rw[show min (n+1) 4=n+1 by omega,Nat.pow_succ];exact Nat.mul_le_mul h1 (by omega)
  ·rename_i g;rw[show min n 4=4 by omega]at h1;rw[show min (n+1) 4=4 by omega];exact h1
theorem gtP(L:List (List Tk))(h:List AObj)(hn:L.length≤9223372036854775807):ACalls Tryz.prog 149 [qt L] h (.bool (gtB L)) h:=by
 obtain⟨R,hR⟩: ∃R,R=gtB L:=⟨_,rfl⟩
 rw[←hR];unfold gtB at hR;refine acO qx6 ?_;simp (disch:=omega) only[qwB,qt,go_sem];refine qp (T:=fun i:Nat×AObj=>qQ 97 [(0,qt L),(3,.int .i64 (prN L i.1:Int)),(4,.int .i64 i.1)]) (H:=fun i=>h++ [i.2]) (inv:=fun i=>i.1≤L.length∧qH [i.2] 0=true∧ ∀j,j<i.1→(fun i=>qdh i (L.getD i [])) j=false) (m:=fun i=>L.length-i.1) (0,.emp 0) ⟨nzl _,rfl,fun j hj=>absurd hj (nnz j)⟩ (Wk.temps ?_) ?_
 ·(simp only[qt,prN,go_sem,qi,qe,qa,qh];try (repeat' first|(with_reducible apply aiA)|(apply qg;omega)|(apply qf;rfl)|exact qj))
 rintro⟨i,O⟩ ⟨i1,i2,i3⟩ K hK;simp only at i1 i2 i3 hK;have i2': ∀m,qH (O::m) 0=true:=fun _=>i2
 have h6: ∀j,j<i→(L.getD j []).length≤6:=fun j hj=>by
  have:=i3 j hj
  unfold qdh at this;simp only[Bool.or_eq_false_iff,decide_eq_false_iff_not]at this;omega
 have hp:=qzG h6;have hp2:prN L i≤2401:=by
  have:7^min i 4≤7^4:=Nat.pow_le_pow_right (by omega) (Nat.min_le_right _ _)
  have h3:(7:Nat)^4=2401:=rfl;omega
 have hst:prN L (i+1)=if i<4 then prN L i*((L.getD i []).length+1) else prN L i:=rfl
 obtain⟨q,hq⟩: ∃q,q=prN L i:=⟨_,rfl⟩
 have eq:=hq.symm;rw[eq]at hp2 hst
 by_cases hi:i<L.length
 ·have k1:((i:Int)<L.length)=True:=eqt (by omega);have hit:qdh i (L.getD i [])=true→R=true:=fun hc=>by rw[hR,qy.2 ⟨i,hi,hc⟩];rfl
  have i4:=fun hc=>jv (p:=fun i=>qdh i (L.getD i [])) i3 hc
  obtain⟨r,hr⟩: ∃r,r=L.getD i []:=⟨_,rfl⟩
  have er:=hr.symm;rw[er]at hst hit;simp only[er]at i4;have hB:qdh i r=(decide (6<r.length)||((decide (4≤i)&&decide (1<r.length))||qZ (fun k=>qb1 (r.getD k default)) r.length)):=rfl
  by_cases g1:6<r.length
  ·have k2:((6:Int)<r.length)=True:=eqt (by omega);rw[hit (by rw[hB,dqt g1];rfl)];simp (disch:=omega) only[qt,jS,k1,k2,er,eq,go_sem]
   repeat' first
    |(apply qb;exact rvk;simp only[go_sem];exact qj)
    |with_reducible first|intro _|apply aiA
   all_goals try exact clz
  have k2:((6:Int)<r.length)=False:=eqf (by omega);rw[dqf g1,Bool.false_or]at hB;have hq':q*(r.length+1)≤2401*7:=Nat.mul_le_mul hp2 (by omega);have hmul:(q:Int)*((r.length:Int)+1)=((q*(r.length+1):Nat):Int):=by push_cast;rfl
  have m2:(((q*(r.length+1):Nat):Int)≤9223372036854775807)=True:=eqt (by omega);have m3:(-9223372036854775808≤((q*(r.length+1):Nat):Int))=True:=eqt (by omega)
  by_cases gg:4≤i∧1<r.length
  ·have k3:((4:Int)≤i)=True:=eqt (by omega);have k5:((1:Int)<r.length)=True:=eqt (by omega);rw[hit (by rw[hB,dqt gg.1,dqt gg.2];rfl)];simp (disch:=omega) only[qt,jS,k1,k2,k3,k5,er,eq,go_sem]
   repeat' first
    |(apply qb;exact rvk;simp only[go_sem];exact qj)
    |with_reducible apply aiA
   all_goals try exact clz
  have hB':qdh i r=qZ (fun k=>qb1 (r.getD k default)) r.length:=by
   rw[hB]
   have:(decide (4≤i)&&decide (1<r.length))=false:=by
    rw[←Bool.decide_and];exact dqf gg
   rw[this,Bool.false_or]
  rcases Nat.lt_or_ge i 4 with gi|gi
  ·have k3:((4:Int)≤i)=False:=eqf (by omega);have k4:((i:Int)<4)=True:=eqt (by omega);rw[ipo gi]at hst;simp (disch:=omega) only[qt,jS,k1,k2,k3,k4,er,eq,hmul,go_sem]
   repeat' first
    |(apply qb;exact rvk;simp only[go_sem];apply qf)
    |with_reducible first|intro _|apply aiA
   all_goals try exact clz
   refine qp (T:=fun k:Nat×AObj=>qQ 97 [(0,qt L),(3,.int .i64 ((q*(r.length+1):Nat):Int)),(4,.int .i64 i),(5,.int .i64 k.1)]) (H:=fun k=>h++ [k.2]) (inv:=fun k=>k.1≤r.length∧qH [k.2] 0=true∧ ∀j,j<k.1→(fun k=>qb1 (r.getD k default)) j=false) (m:=fun k=>r.length-k.1) (0,O) ⟨nzl _,i2,fun j hj=>absurd hj (nnz j)⟩ (Wk.temps ?_) ?_
   ·(simp only[qt,go_sem,qi,qe,qa,qh];try (repeat' first|(with_reducible apply aiA)|(apply qg;omega)|(apply qf;rfl)|exact qj))
   rintro⟨k,O'⟩ ⟨u1,u2,u3⟩ K2 hK2;simp only at u1 u2 u3 hK2;have u2': ∀m,qH (O'::m) 0=true:=fun _=>u2
   by_cases hk:k<r.length
   ·have t1:((k:Int)<r.length)=True:=eqt (by omega);have hbit:qb1 (r.getD k default)=true→R=true:=fun hc=>hit (by rw[hB',qy];exact⟨k,hk,hc⟩)
    have u4:=fun hc=>jv (p:=fun k=>qb1 (r.getD k default)) u3 hc
    obtain⟨t,ht⟩: ∃t,t=r.getD k default:=⟨_,rfl⟩
    have et:=ht.symm;rw[et]at hbit;simp only[et]at u4;have hT:qb1 t=(decide (12<t.text.length)||(decide (12<t.norm.length)||(decide (20<t.page.length)||decide (20<t.name.length)))):=rfl
    by_cases gA:12<t.text.length
    ·have qA:((12:Int)<t.text.length)=True:=eqt (by omega);rw[hbit (by rw[hT,dqt gA];simp)];simp (disch:=omega) only[qt,jS,tkC,k1,t1,er,et,u2',qA,go_sem]
     repeat' first
      |(apply qb;exact rvk;simp only[go_sem];exact qj)
      |with_reducible apply aiA
     all_goals try exact clz
    have qA:((12:Int)<t.text.length)=False:=eqf (by omega)
    by_cases gB:12<t.norm.length
    ·have qB:((12:Int)<t.norm.length)=True:=eqt (by omega);rw[hbit (by rw[hT,dqt gB];simp)];simp (disch:=omega) only[qt,jS,tkC,k1,t1,er,et,u2',qA,qB,go_sem]
     repeat' first
      |(apply qb;exact rvk;simp only[go_sem];exact qj)
      |with_reducible apply aiA
     all_goals try exact clz
    have qB:((12:Int)<t.norm.length)=False:=eqf (by omega)
    by_cases gC:20<t.page.length
    ·have qC:((20:Int)<t.page.length)=True:=eqt (by omega);rw[hbit (by rw[hT,dqt gC];simp)];simp (disch:=omega) only[qt,jS,tkC,k1,t1,er,et,u2',qA,qB,qC,go_sem]
     repeat' first
      |(apply qb;exact rvk;simp only[go_sem];exact qj)
      |with_reducible apply aiA
     all_goals try exact clz
    have qC:((20:Int)<t.page.length)=False:=eqf (by omega)
    by_cases gD:20<t.name.length
    ·have qD:((20:Int)<t.name.length)=True:=eqt (by omega);rw[hbit (by rw[hT,dqt gD];simp)];simp (disch:=omega) only[qt,jS,tkC,k1,t1,er,et,u2',qA,qB,qC,qD,go_sem]
     repeat' first
      |(apply qb;exact rvk;simp only[go_sem];exact qj)
      |with_reducible apply aiA
     all_goals try exact clz
    have qD:((20:Int)<t.name.length)=False:=eqf (by omega);simp (disch:=omega) only[qt,jS,tkC,k1,t1,er,et,u2',qA,qB,qC,qD,go_sem]
    repeat' first
     |with_reducible apply aiA
    all_goals try exact clz
    refine hK2 _ _ (k+1,_) ⟨hk,rfl,u4 (by rw[hT,dqf gA,dqf gB,dqf gC,dqf gD];rfl)⟩ (by simp only;omega) (Wk.temps ?_)
    (simp only[qt,jS,tkC,go_sem,qi,qe,qa,qh];try (repeat' first|(with_reducible apply aiA)|(apply qg;omega)|(apply qf;rfl)|exact qj))
   ·have t1:((k:Int)<r.length)=False:=eqf (by omega);have hz:qdh i r=false:=by rw[hB',ql];exact fun j hj=>u3 j (by omega)
    simp (disch:=omega) only[qt,jS,t1,er,go_sem]
    repeat' first
     |with_reducible apply aiA
    all_goals try exact clz
    refine hK _ _ (i+1,O') ⟨hi,u2,i4 hz⟩ (by simp only;omega) ?_;simp only[hst];refine Wk.temps ?_
    (simp only[qt,go_sem,qi,qe,qa,qh];try (repeat' first|(with_reducible apply aiA)|(apply qg;omega)|(apply qf;rfl)|exact qj))
  ·have k3:((4:Int)≤i)=True:=eqt (by omega);have k4:((i:Int)<4)=False:=eqf (by omega);have k5:((1:Int)<r.length)=False:=eqf (by omega);rw[ine (by omega)]at hst;simp (disch:=omega) only[qt,jS,k1,k2,k3,k4,k5,er,eq,hmul,go_sem]
   repeat' first
    |with_reducible apply aiA
   all_goals try exact clz
   refine qp (T:=fun k:Nat×AObj=>qQ 97 [(0,qt L),(3,.int .i64 (q:Int)),(4,.int .i64 i),(5,.int .i64 k.1)]) (H:=fun k=>h++ [k.2]) (inv:=fun k=>k.1≤r.length∧qH [k.2] 0=true∧ ∀j,j<k.1→(fun k=>qb1 (r.getD k default)) j=false) (m:=fun k=>r.length-k.1) (0,O) ⟨nzl _,i2,fun j hj=>absurd hj (nnz j)⟩ (Wk.temps ?_) ?_
   ·(simp only[qt,go_sem,qi,qe,qa,qh];try (repeat' first|(with_reducible apply aiA)|(apply qg;omega)|(apply qf;rfl)|exact qj))
   rintro⟨k,O'⟩ ⟨u1,u2,u3⟩ K2 hK2;simp only at u1 u2 u3 hK2;have u2': ∀m,qH (O'::m) 0=true:=fun _=>u2
   by_cases hk:k<r.length
   ·have t1:((k:Int)<r.length)=True:=eqt (by omega);have hbit:qb1 (r.getD k default)=true→R=true:=fun hc=>hit (by rw[hB',qy];exact⟨k,hk,hc⟩)
    have u4:=fun hc=>jv (p:=fun k=>qb1 (r.getD k default)) u3 hc
    obtain⟨t,ht⟩: ∃t,t=r.getD k default:=⟨_,rfl⟩
    have et:=ht.symm;rw[et]at hbit;simp only[et]at u4;have hT:qb1 t=(decide (12<t.text.length)||(decide (12<t.norm.length)||(decide (20<t.page.length)||decide (20<t.name.length)))):=rfl
    by_cases gA:12<t.text.length
    ·have qA:((12:Int)<t.text.length)=True:=eqt (by omega);rw[hbit (by rw[hT,dqt gA];simp)];simp (disch:=omega) only[qt,jS,tkC,k1,t1,er,et,u2',qA,go_sem]
     repeat' first
      |(apply qb;exact rvk;simp only[go_sem];exact qj)
      |with_reducible apply aiA
     all_goals try exact clz
    have qA:((12:Int)<t.text.length)=False:=eqf (by omega)
    by_cases gB:12<t.norm.length
    ·have qB:((12:Int)<t.norm.length)=True:=eqt (by omega);rw[hbit (by rw[hT,dqt gB];simp)];simp (disch:=omega) only[qt,jS,tkC,k1,t1,er,et,u2',qA,qB,go_sem]
     repeat' first
      |(apply qb;exact rvk;simp only[go_sem];exact qj)
      |with_reducible apply aiA
     all_goals try exact clz
    have qB:((12:Int)<t.norm.length)=False:=eqf (by omega)
    by_cases gC:20<t.page.length
    ·have qC:((20:Int)<t.page.length)=True:=eqt (by omega);rw[hbit (by rw[hT,dqt gC];simp)];simp (disch:=omega) only[qt,jS,tkC,k1,t1,er,et,u2',qA,qB,qC,go_sem]
     repeat' first
      |(apply qb;exact rvk;simp only[go_sem];exact qj)
      |with_reducible apply aiA
     all_goals try exact clz
    have qC:((20:Int)<t.page.length)=False:=eqf (by omega)
    by_cases gD:20<t.name.length
    ·have qD:((20:Int)<t.name.length)=True:=eqt (by omega);rw[hbit (by rw[hT,dqt gD];simp)];simp (disch:=omega) only[qt,jS,tkC,k1,t1,er,et,u2',qA,qB,qC,qD,go_sem]
     repeat' first
      |(apply qb;exact rvk;simp only[go_sem];exact qj)
      |with_reducible apply aiA
     all_goals try exact clz
    have qD:((20:Int)<t.name.length)=False:=eqf (by omega);simp (disch:=omega) only[qt,jS,tkC,k1,t1,er,et,u2',qA,qB,qC,qD,go_sem]
    repeat' first
     |with_reducible apply aiA
    all_goals try exact clz
    refine hK2 _ _ (k+1,_) ⟨hk,rfl,u4 (by rw[hT,dqf gA,dqf gB,dqf gC,dqf gD];rfl)⟩ (by simp only;omega) (Wk.temps ?_)
    (simp only[qt,jS,tkC,go_sem,qi,qe,qa,qh];try (repeat' first|(with_reducible apply aiA)|(apply qg;omega)|(apply qf;rfl)|exact qj))
   ·have t1:((k:Int)<r.length)=False:=eqf (by omega);have hz:qdh i r=false:=by rw[hB',ql];exact fun j hj=>u3 j (by omega)
    simp (disch:=omega) only[qt,jS,t1,er,go_sem]
    repeat' first
     |with_reducible apply aiA
    all_goals try exact clz
    refine hK _ _ (i+1,O') ⟨hi,u2,i4 hz⟩ (by simp only;omega) ?_;simp only[hst];refine Wk.temps ?_
    (simp only[qt,go_sem,qi,qe,qa,qh];try (repeat' first|(with_reducible apply aiA)|(apply qg;omega)|(apply qf;rfl)|exact qj))
 have k1:((i:Int)<L.length)=False:=eqf (by omega);obtain rfl:i=L.length:=by omega
 rw[ql.2 (fun j hj=>i3 j hj),Bool.false_or,←hq]at hR
 by_cases g1:400<q
 ·have k2:((400:Int)<q)=True:=eqt (by omega);rw[hR,dqt g1,Bool.true_or];simp (disch:=omega) only[qt,k1,k2,eq,go_sem]
  repeat' first
   |(apply qb;exact rvk;simp only[go_sem];exact qj)
 have k2:((400:Int)<q)=False:=eqf (by omega);rw[dqf g1,Bool.false_or]at hR
 by_cases g2:6<L.length
 ·have k3:((6:Int)<L.length)=True:=eqt (by omega)
  by_cases g3:L.length≤32
  ·have k4:((L.length:Int)≤32)=True:=eqt (by omega);rw[hR,dqt g2,dqt g3];simp (disch:=omega) only[qt,k1,k2,k3,k4,eq,go_sem]
   repeat' first
    |(apply qb;exact rvk;simp only[go_sem];exact qj)
  have k4:((L.length:Int)≤32)=False:=eqf (by omega);have e1:decide ((34:Int)<L.length)=decide (34<L.length):=decide_eq_decide.2 (by omega);rw[hR,dqt g2,dqf g3,←e1];simp (disch:=omega) only[qt,k1,k2,k3,k4,eq,go_sem]
  repeat' first
   |(apply qb;exact rvk;simp only[go_sem];exact qj)
 have k3:((6:Int)<L.length)=False:=eqf (by omega);have e1:decide ((34:Int)<L.length)=decide (34<L.length):=decide_eq_decide.2 (by omega);rw[hR,dqf g2,←e1];simp (disch:=omega) only[qt,k1,k2,k3,eq,go_sem]
 repeat' first
  |(apply qb;exact rvk;simp only[go_sem];exact qj)
end RC
end
