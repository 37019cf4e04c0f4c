import Derived.KernelRfl
import Derived.Test.YtgoandblgcjleaaGreatDoorK7
import Derived.Test.YtgoandblgcjleaaGreatDoorK5
import Derived.Test.YtgoandblgcjleaaGreatDoorK3
import Derived.Test.YtgoandblgcjleaaGreatDoorProg
import Derived.Test.YtgoandblgcjleaaGreatDoorK4
set_option linter.all false
set_option linter.unusedSimpArgs false
set_option linter.unusedVariables false
set_option linter.unusedSectionVars false
set_option maxRecDepth 100000
section
namespace AF
open Go
theorem fi{P:Program}{f:Nat}(fn:Func)(js:List Tmp)(imp:List FuncId)(wks:List Nat){nt ns:Nat}{rs:List RV}{c:C}(h1:P.funcs[f]? =some fn:=by kernel_rfl)
  (h2 : (fn.body.isSome && (fn.name != "runtime.NumGoroutine")) = true := by kernel_rfl) (h3 : (fn.ntmps, js.length) = (nt, ns) := by kernel_rfl) (h4 : (qid P fn.results.toList, cv P js imp wks (fn.body.getD .skip)) = (some rs, some c) := by kernel_rfl) : qE P f nt ns rs c := by
 cases hb:fn.body with
 |none=>rw[hb]at h2;cases h2
 |some body=>
  rw[hb]at h2 h4;cases h3;simp only[Prod.mk.injEq]at h4;exact⟨fn,body,js,imp,wks,h1,hb,by simpa using h2,rfl,rfl,h4.1,h4.2⟩
def qam(p:Nat→Bool):Nat→Nat→Int
 |0,_=> -1
 |k+1,i=>if p i=true then i else qam p k (i+1)
theorem qe4{p:Nat→Bool}{n i:Nat}(hi:i≤n)(h: ∀j,j<i→p j=false):qam p n 0=qam p (n-i) i:=by
 induction i with
 |zero=>rfl
 |succ i ih=>
  rw[ih (by omega) (fun j hj=>h j (by omega)),show n-i=(n-(i+1))+1 by omega];simp only[qam,h i (by omega),Bool.false_eq_true,if_false]
theorem qae{p:Nat→Bool}{n i:Nat}(hi:i<n)(h: ∀j,j<i→p j=false)(hp:p i=true):qam p n 0=i:=by
 rw[qe4 (by omega) h,show n-i=(n-i-1)+1 by omega];unfold qam;rw[hp];rfl
theorem qay{p:Nat→Bool}{n:Nat}(h: ∀j,j<n→p j=false):qam p n 0= -1:=by
 rw[qe4 (nlr n) h,Nat.sub_self];rfl
theorem zh(p:Nat→Bool)(n:Nat):(∃i,i<n∧p i=true∧(∀j,j<i→p j=false)∧qam p n 0=i)∨((∀j,j<n→p j=false)∧qam p n 0= -1):=by
 induction n with
 |zero=>exact .inr ⟨fun j hj=>by omega,rfl⟩
 |succ n ih=>
  by_cases h: ∃i,i<n+1∧p i=true
  ·rcases ih with⟨i,h1,h2,h3,h4⟩|⟨h1,h2⟩
   ·exact .inl ⟨i,by omega,h2,h3,qae (by omega) h3 h2⟩
   ·obtain⟨i,h3,h4⟩:=h;have e:i=n:=by
     by_cases e:i<n
     ·rw[h1 i e]at h4;cases h4
     ·omega
    subst e;exact .inl ⟨i,h3,h4,h1,qae h3 h1 h4⟩
  ·refine .inr ?_;have h': ∀j,j<n+1→p j=false:=fun j hj=>by
    cases e:p j with
    |false=>rfl
    |true=>exact absurd ⟨j,hj,e⟩ h
   exact⟨h',qay h'⟩
def qZ(p:Nat→Bool)(n:Nat):Bool:=decide (0≤qam p n 0)
theorem qy{p:Nat→Bool}{n:Nat}:qZ p n=true↔ ∃i,i<n∧p i=true:=by
 unfold qZ;rw[decide_eq_true_iff];rcases zh p n with⟨i,h1,h2,_,h4⟩|⟨h1,h2⟩
 ·rw[h4];exact⟨fun _=>⟨i,h1,h2⟩,fun _=>by omega⟩
 ·rw[h2];exact⟨fun h=>by omega,fun ⟨i,h3,h4⟩=>by rw[h1 i h3]at h4;cases h4⟩
theorem ql{p:Nat→Bool}{n:Nat}:qZ p n=false↔ ∀i,i<n→p i=false:=by
 constructor
 ·intro h i hi;cases e:p i with
  |false=>rfl
  |true=>rw[qy.2 ⟨i,hi,e⟩]at h;cases h
 ·intro h;cases e:qZ p n with
  |false=>rfl
  |true=>
   obtain⟨i,h1,h2⟩:=qy.1 e;rw[h i h1]at h2;cases h2
def cIX:C:=
 ((C.ops [MC 4 (i6 0)]).seq (((C.ops [MV 6 0,O1 7 .len 6,MC 8 (i6 0)]).seq (C.block 0 ((C.ops [BI 9 .lss 8 7]).seq ((C.cond (.t 9) C.skip (C.exit 0)).seq ((C.block 1 ((C.ops [MV 10 8,MV 5 10]).seq ((C.ops [MV 11 1,MV 12 0,MV 13 5,O2 14 (.idxA 1) 12 13,LD 15 14,BI 16 .eql 11 15]).seq (C.cond (.t 16) ((C.ops [MV 17 5,MV 4 17]).seq C.ret) C.skip)))).seq (C.ops [BC 18 .add 8 (i6 1),MV 8 18])))).loop)).seq ((C.ops [MC 4 (i6 (-1))]).seq C.ret)))
def cIF(z:Nat)(m:Option Nat):C:=
 ((C.ops [MC 4 (i6 0)]).seq (((C.ops [MV 6 0,O1 7 .len 6,MC 8 (i6 0)]).seq (C.block 0 ((C.ops [BI 9 .lss 8 7]).seq ((C.cond (.t 9) C.skip (C.exit 0)).seq ((C.block 1 ((C.ops [MV 10 8,MV 5 10]).seq ((C.ops [MV 11 1,MV 12 0,MV 13 5,O2 14 (.idxA z) 12 13,O1 15 (.load m) 14,O2 16 .callv 11 15]).seq (C.cond (.t 16) ((C.ops [MV 17 5,MV 4 17]).seq C.ret) C.skip)))).seq (C.ops [BC 18 .add 8 (i6 1),MV 8 18])))).loop)).seq ((C.ops [MC 4 (i6 (-1))]).seq C.ret)))
def cCT(g:Nat):C:=((C.ops [MC 4 (.bool false)]).seq ((C.ops [MV 5 0,MV 6 1,O2 7 (.call g true) 5 6,BC 8 .geq 7 (i6 0),MV 4 8]).seq C.ret))
def cEQ:C:=
 ((C.ops [MC 4 (.bool false)]).seq (((C.ops [MV 6 0,O1 7 .len 6,MV 8 1,O1 9 .len 8,BI 10 .neq 7 9]).seq (C.cond (.t 10) ((C.ops [MC 4 (.bool false)]).seq C.ret) C.skip)).seq (((C.ops [MV 11 0,O1 12 .len 11,MC 13 (i6 0)]).seq (C.block 0 ((C.ops [BI 14 .lss 13 12]).seq ((C.cond (.t 14) C.skip (C.exit 0)).seq ((C.block 1 ((C.ops [MV 15 13,MV 5 15]).seq ((C.ops [MV 16 0,MV 17 5,O2 18 (.idxA 1) 16 17,LD 19 18,MV 20 1,MV 21 5,O2 22 (.idxA 1) 20 21,LD 23 22,BI 24 .neq 19 23]).seq (C.cond (.t 24) ((C.ops [MC 4 (.bool false)]).seq C.ret) C.skip)))).seq (C.ops [BC 25 .add 13 (i6 1),MV 13 25])))).loop)).seq ((C.ops [MC 4 (.bool true)]).seq C.ret))))
inductive At where
 |s (x:List UInt8)
 |i (n:Int)
 deriving DecidableEq
def At.v:At→AV
 | .s x=> .str x
 | .i n=> .int .i64 n
def At.k:At→Bool
 | .s _=>true
 | .i _=>false
theorem At.strip(a:At):a.v.strip=a.v:=by cases a<;>rfl
theorem At.flag(a:At):a.v.flag=true:=by cases a<;>rfl
theorem At.solid(a:At):a.v.solid=true:=by cases a<;>rfl
theorem At.eql{a b:At}(h:a.k=b.k):qar .eql a.v b.v=True∧qaN .eql a.v b.v= .bool (decide (a=b)):=by
 cases a<;>cases b<;>simp_all [At.v,At.k,qar,qaN]
theorem At.neq{a b:At}(h:a.k=b.k):qar .neq a.v b.v=True∧qaN .neq a.v b.v= .bool (!decide (a=b)):=by
 cases a<;>cases b<;>simp_all [At.v,At.k,qar,qaN]
set_option maxHeartbeats 1000000
theorem qBP{P:Program}{f:Nat}(hf:qE P f 19 0 [RV.tmp 4] cIX)(n:Nat)(g:Nat→At)(x:At)(h:List AObj)(hk: ∀i,i<n→x.k=(g i).k)(hn:n≤9223372036854775807):
  ACalls P f [.sl n (fun i=> [(g i).v]),x.v] h (.int .i64 (qam (fun i=>decide (x=g i)) n 0)) h:=by
 have s1:=x.strip;have s2:=x.flag;refine acO hf ?_;simp (disch:=omega) only[cIX,go_sem];refine qp (T:=fun i:Nat=>qQ 19 [(0,.sl n (fun i=> [(g i).v])),(1,x.v),(6,.sl n (fun i=> [(g i).v])),(7,.int .i64 n),(8,.int .i64 i)]) (H:=fun _=>h) (inv:=fun i=>i≤n∧ ∀j,j<i→decide (x=g j)=false) (m:=fun i=>n-i) 0 ⟨nzl _,fun j hj=>by omega⟩ (Wk.temps ?_) ?_
 ·exact tmq
 rintro i ⟨i1,i2⟩ K hK
 by_cases hi:i<n
 ·have k1:((i:Int)<n)=True:=eqt (by omega);obtain⟨e1,e2⟩:=At.eql (hk i hi);have f1:=(g i).strip;have f2:=(g i).flag
  by_cases g0:x=g i
  ·rw[dqt g0]at e2;have hV:=qae hi i2 (by rw[dqt g0]);rw[hV];simp (disch:=omega) only[s1,s2,k1,e1,e2,f1,f2,go_sem]
   repeat' first
    |(apply qd;exact rvk;simp only[go_sem];exact qj)
    |with_reducible apply aiA
   all_goals try exact clz
  ·rw[dqf g0]at e2;simp (disch:=omega) only[s1,s2,k1,e1,e2,f1,f2,go_sem]
   repeat' first
    |with_reducible apply aiA
   all_goals try exact clz
   refine hK _ _ (i+1) ⟨hi,fun j hj=> ?_⟩ (by omega) (Wk.temps ?_)
   ·by_cases e:j=i
    ·subst e;exact dqf g0
    ·exact i2 j (by omega)
   ·exact tmq
 ·have k1:((i:Int)<n)=False:=eqf (by omega);have hV:=qay (p:=fun i=>decide (x=g i)) (n:=n) (fun j hj=>i2 j (by omega));rw[hV];simp (disch:=omega) only[s1,s2,k1,go_sem]
  repeat' first
   |(apply qd;exact rvk;simp only[go_sem];exact qj)
theorem qaO{P:Program}{f z:Nat}{m:Option Nat}(hf:qE P f 19 0 [RV.tmp 4] (cIF z m))(n:Nat)(g:Nat→List AV)(e:Nat→AV)(q:Nat)(first cap:List AV)(p:Nat→Bool)(h:List AObj)
  (hg: ∀i,i<n→(g i).length=z∧zZ (g i) 0 m∧cut (g i) 0 m=e i∧(e i).strip=e i∧(e i).flag=true) (hc: ∀i,i<n→ACalls P q (first++ [e i]++cap) h (.bool (p i)) h) (hn:n≤9223372036854775807):
  ACalls P f [.sl n g,.fn (.func q) first cap] h (.int .i64 (qam p n 0)) h:=by
 refine acO hf ?_;simp (disch:=omega) only[cIF,go_sem];refine qp (T:=fun i:Nat=>qQ 19 [(0,.sl n g),(1,.fn (.func q) first cap),(6,.sl n g),(7,.int .i64 n),(8,.int .i64 i)]) (H:=fun _=>h) (inv:=fun i=>i≤n∧ ∀j,j<i→p j=false) (m:=fun i=>n-i) 0 ⟨nzl _,fun j hj=>by omega⟩ (Wk.temps ?_) ?_
 ·exact tmq
 rintro i ⟨i1,i2⟩ K hK
 by_cases hi:i<n
 ·have k1:((i:Int)<n)=True:=eqt (by omega);obtain⟨e1,e2,e3,e4,e5⟩:=hg i hi;have e1:=eqt e1;have e2:=eqt e2;have c:=hc i hi;cases g0:p i with
  |true=>
   rw[g0]at c;have hV:=qae hi i2 g0;rw[hV];simp (disch:=omega) only[k1,e1,e2,e3,e4,e5,go_sem]
   repeat' first
    |(refine qw c ?_;simp (disch:=omega) only[go_sem])
    |(apply qd;exact rvk;simp only[go_sem];exact qj)
    |with_reducible apply aiA
   all_goals try exact clz
  |false=>
   rw[g0]at c;simp (disch:=omega) only[k1,e1,e2,e3,e4,e5,go_sem]
   repeat' first
    |(refine qw c ?_;simp (disch:=omega) only[go_sem])
    |with_reducible apply aiA
   all_goals try exact clz
   refine hK _ _ (i+1) ⟨hi,fun j hj=> ?_⟩ (by omega) (Wk.temps ?_)
   ·by_cases e:j=i
    ·subst e;exact g0
    ·exact i2 j (by omega)
   ·exact tmq
 ·have k1:((i:Int)<n)=False:=eqf (by omega);have hV:=qay (p:=p) (n:=n) (fun j hj=>i2 j (by omega));rw[hV];simp (disch:=omega) only[k1,go_sem]
  repeat' first
   |(apply qd;exact rvk;simp only[go_sem];exact qj)
theorem qib{P:Program}{f g:Nat}(hf:qE P f 9 0 [RV.tmp 4] (cCT g)){p:Nat→Bool}{n:Nat}{a b:AV}{h:List AObj}(ha:a.strip=a∧a.flag=true)(hb:b.strip=b∧b.flag=true)(hc:ACalls P g [a,b] h (.int .i64 (qam p n 0)) h):
  ACalls P f [a,b] h (.bool (qZ p n)) h:=by
 obtain⟨a1,a2⟩:=ha;obtain⟨b1,b2⟩:=hb;unfold qZ;have e0:strips [a,b]= [a,b]:=by simp[strips,a1,b1]
 rw[←e0]at hc;refine acO hf ?_;simp (disch:=omega) only[cCT,a1,a2,b1,b2,go_sem]
 repeat' first
  |(refine cA hc ?_ ?_;exact flk;simp (disch:=omega) only[go_sem])
  |(apply qd;exact rvk;simp only[go_sem];exact qj)
theorem qCW{P:Program}{f:Nat}(hf:qE P f 26 0 [RV.tmp 4] cEQ)(n m:Nat)(g k:Nat→At)(h:List AObj)(hk: ∀i,i<n→i<m→(g i).k=(k i).k)(hn:n≤9223372036854775807)(hm:m≤9223372036854775807):
  ACalls P f [.sl n (fun i=> [(g i).v]),.sl m (fun i=> [(k i).v])] h (.bool (decide (n=m∧ ∀i,i<n→g i=k i))) h:=by
 by_cases hnm:n=m
 ·subst hnm;refine acO hf ?_;simp (disch:=omega) only[cEQ,go_sem];refine qp (T:=fun i:Nat=>qQ 26 [(0,.sl n (fun i=> [(g i).v])),(1,.sl n (fun i=> [(k i).v])),(12,.int .i64 n),(13,.int .i64 i)]) (H:=fun _=>h) (inv:=fun i=>i≤n∧ ∀j,j<i→g j=k j) (m:=fun i=>n-i) 0 ⟨nzl _,fun j hj=>by omega⟩ (Wk.temps ?_) ?_
  ·exact tmq
  rintro i ⟨i1,i2⟩ K hK
  by_cases hi:i<n
  ·have k1:((i:Int)<n)=True:=eqt (by omega);obtain⟨e1,e2⟩:=At.neq (hk i hi hi);have f1:=(g i).strip;have f2:=(g i).flag;have f3:=(k i).strip;have f4:=(k i).flag
   by_cases g0:g i=k i
   ·rw[dqt g0]at e2;simp (disch:=omega) only[k1,e1,e2,f1,f2,f3,f4,go_sem]
    repeat' first
     |with_reducible apply aiA
    all_goals try exact clz
    refine hK _ _ (i+1) ⟨hi,fun j hj=> ?_⟩ (by omega) (Wk.temps ?_)
    ·by_cases e:j=i
     ·subst e;exact g0
     ·exact i2 j (by omega)
    ·exact tmq
   ·rw[dqf g0]at e2;rw[dqf (fun hc=>g0 (hc i hi))];simp (disch:=omega) only[k1,e1,e2,f1,f2,f3,f4,go_sem]
    repeat' first
     |(apply qd;exact rvk;simp only[go_sem];exact qj)
     |with_reducible apply aiA
    all_goals try exact clz
  ·have k1:((i:Int)<n)=False:=eqf (by omega);rw[dqt (fun j hj=>i2 j (by omega))];simp (disch:=omega) only[k1,go_sem]
   repeat' first
    |(apply qd;exact rvk;simp only[go_sem];exact qj)
 ·have k1:((n:Int)=m)=False:=eqf (by omega);rw[dqf (fun hc=>hnm hc.1)];refine acO hf ?_;simp (disch:=omega) only[cEQ,k1,go_sem]
  repeat' first
   |(apply qd;exact rvk;simp only[go_sem];exact qj)
end AF
end
section
open Go Go.Proofs AF
def zr:List Nat:= []
def qhV:C:=
 ((C.ops [MC 2 (.bool false)]).seq ((C.ops [MV 3 0,O1 4 .slen 3,BC 5 .leq 4 (i6 16),MV 6 5,MG 7 6 true 0,P1 8 6 true (.call 216 true) 7,PF 9 6 8,MV 10 9,MG 11 10 true 0,P1
 12 10 true (.call 217 true) 11,MG 13 10 true 0,P1 14 10 true .slen 13,P2 15 10 true (.bin .eql) 12 14,PF 16 10 15,MV 2 16]).seq
 C.ret))
theorem qeW:qE Tryz.prog 166 17 0 [RV.tmp 2] qhV:=fi Tryz.f166 [] zr []
def qkD:C:=
 ((C.ops [MC 2 (.bool false)]).seq ((C.ops [MV 3 0,BC 4 .neq 3 (.str []),MV 5 4,MG 6 5 true 0,P1 7 5 true .slen 6,PC 8 5 true (.bin .leq) 7 (i6 16),PF 9 5 8,MV 10 9,MG 11 10
 true 0,P1 12 10 true (.call 242 true) 11,MG 13 10 true 0,P1 14 10 true .slen 13,P2 15 10 true (.bin .eql) 12 14,PF 16 10 15,MV 2 16]).seq
 C.ret))
theorem qg9:qE Tryz.prog 186 17 0 [RV.tmp 2] qkD:=fi Tryz.f186 [] zr []
def qhX:C:=
 ((C.ops [MC 2 (.bool false)]).seq (((C.ops [MV 5 0,O1 6 .slen 5,BC 7 .lss 6 (i6 1),MV 8 7,MG 9 8 false 0,P1 10 8 false .slen 9,PC 11 8 false (.bin .gtr) 10 (i6 64),PT 12 8
 11,MV 13 12,MG 14 13 false 0,P1 15 13 false (.call 266 true) 14,PC 16 13 false (.bin .neq) 15 (i6 0),PT 17 13 16]).seq (C.cond (.t 17) ((C.ops [MC 2 (.bool false)]).seq C.ret)
 C.skip)).seq (((C.ops [MV 18 0,OC 19 .sidx 18 (i6 0),O1 20 (.call 257 true) 19,MV 3 20]).seq ((C.ops [MV 21 3,BC 22 .neq 21 (i6 1),MV 23 22,MG 24 23 true 3,PC 25 23 true
 (.bin .neq) 24 (i6 3),PF 26 23 25]).seq (C.cond (.t 26) ((C.ops [MC 2 (.bool false)]).seq C.ret) C.skip))).seq (((C.ops [MC 4 (i6 0)]).seq (C.block 0 (((C.ops [MV 27 4,MV 28 0,
 O1 29 .slen 28,BI 30 .lss 27 29]).seq (C.cond (.t 30) C.skip (C.exit 0))).seq ((C.block 1 ((C.ops [MV 33 0,MV 34 4,O2 35 .sidx 33 34,O1 36 (.call 257 true) 35,BC 37 .gtr 36
 (i6 4)]).seq (C.cond (.t 37) ((C.ops [MC 2 (.bool false)]).seq C.ret) C.skip))).seq (C.ops [MV 31 4,BC 32 .add 31 (i6 1),MV 4 32]))).loop)).seq ((C.ops [MC 2 (.bool true)]).seq
 C.ret)))))
theorem qeY:qE Tryz.prog 216 38 0 [RV.tmp 2] qhX:=fi Tryz.f216 [] zr []
def qwT:C:=
 ((C.ops [MC 2 (i6 0)]).seq ((C.ops [MC 3 (i6 0)]).seq (((C.ops [MC 4 (i6 0)]).seq (C.block 0 (((C.ops [MV 6 4,MV 7 0,O1 8 .slen 7,BI 9 .lss 6 8]).seq (C.cond (.t 9) C.skip
 (C.exit 0))).seq ((C.block 1 ((C.ops [MV 12 0,MV 13 4,O2 14 .sidx 12 13,O1 15 (.call 257 true) 14,MV 5 15]).seq ((C.ops [MV 16 5,BC 17 .eql 16 (i6 1),MV 18 17,MG 19 18 false
 5,PC 20 18 false (.bin .eql) 19 (i6 3),PT 21 18 20]).seq (C.cond (.t 21) (C.ops [MV 22 3,BC 23 .add 22 (i6 1),MV 3 23]) C.skip)))).seq (C.ops [MV 10 4,BC 11 .add 10 (i6 1),MV
 4 11]))).loop)).seq ((C.ops [MV 24 3,MV 2 24]).seq
 C.ret))))
theorem qys:qE Tryz.prog 217 25 0 [RV.tmp 2] qwT:=fi Tryz.f217 [] zr []
def qwX:C:=
 ((C.ops [MC 2 (i6 0)]).seq ((C.ops [MC 3 (i6 0)]).seq (((C.ops [MV 6 0,O1 7 .slen 6,MC 8 (i6 0)]).seq (C.block 0 ((C.ops [BI 9 .lss 8 7]).seq ((C.cond (.t 9) C.skip (C.exit
 0)).seq ((C.block 1 ((C.ops [MV 10 8,MV 4 10]).seq ((C.ops [MV 11 0,MV 12 4,O2 13 .sidx 11 12,O1 14 (.call 285 true) 13,MV 5 14]).seq ((C.ops [MV 15 5,BC 16 .eql 15 (i6 1),
 MV 17 16,MG 18 17 false 5,PC 19 17 false (.bin .eql) 18 (i6 3),PT 20 17 19]).seq (C.cond (.t 20) (C.ops [MV 21 3,BC 22 .add 21 (i6 1),MV 3 22]) C.skip))))).seq (C.ops [BC 23
 .add 8 (i6 1),MV 8 23])))).loop)).seq ((C.ops [MV 24 3,MV 2 24]).seq
 C.ret))))
theorem qyw:qE Tryz.prog 242 25 0 [RV.tmp 2] qwX:=fi Tryz.f242 [] zr []
def qsP:C:=
 ((C.ops [MC 2 (i6 0)]).seq (((C.ops [MV 6 0,O1 7 .slen 6,BC 8 .gtr 7 (i6 65536)]).seq (C.cond (.t 8) ((C.ops [MC 2 (i6 4)]).seq C.ret) C.skip)).seq ((C.ops [MV 9 0,O1 10 (.call
 298 true) 9,MV 3 10]).seq (((C.ops [MC 4 (i6 0)]).seq (C.block 0 (((C.ops [MV 11 4,MV 12 0,O1 13 .slen 12,BI 14 .lss 11 13]).seq (C.cond (.t 14) C.skip (C.exit 0))).seq
 ((C.block 1 ((C.ops [MV 17 0,MV 18 4,O2 19 .sidx 17 18,O1 20 (.call 257 true) 19,MV 5 20]).seq ((C.ops [MV 21 5,BC 22 .eql 21 (i6 0),MV 23 22,MG 24 23 false 5,PC 25 23
 false (.bin .eql) 24 (i6 2),MG 26 23 false 25,MG 27 26 true 3,MG 28 26 true 4,P2 29 26 true (.idxA 1) 27 28,P1 30 26 true (.load none) 29,P1 31 26 true (.un UnOp.not) 30,QF
 32 23 false 26 31,PT 33 23 32]).seq (C.cond (.t 33) ((C.ops [MC 2 (i6 11)]).seq C.ret) C.skip)))).seq (C.ops [MV 15 4,BC 16 .add 15 (i6 1),MV 4 16]))).loop)).seq ((C.ops [MC 2
 (i6 0)]).seq
 C.ret)))))
theorem qrH:qE Tryz.prog 266 34 0 [RV.tmp 2] qsP:=fi Tryz.f266 [] zr []
def qw4:C:=
 ((C.ops [MC 2 (i6 0)]).seq ((C.block 0 ((C.ops [MV 4 0,BC 5 .geq 4 (.int .u8 97),MV 6 5,MG 7 6 true 0,PC 8 6 true (.bin .leq) 7 (.int .u8 122),PF 9 6 8,MV 10 9,MG 11 10
 false 0,PC 12 10 false (.bin .geq) 11 (.int .u8 65),MG 13 10 false 12,MG 14 13 true 0,PC 15 13 true (.bin .leq) 14 (.int .u8 90),QF 16 10 false 13 15,PT 17 10 16,MV 3
 17]).seq (C.cond (.t 3) ((C.ops [MC 2 (i6 1)]).seq C.ret) ((C.ops [MV 19 0,BC 20 .eql 19 (.int .u8 94),MV 21 20,MG 22 21 false 0,PC 23 21 false (.bin .eql) 22 (.int .u8 126),
 PT 24 21 23,MV 25 24,MG 26 25 false 0,PC 27 25 false (.bin .eql) 26 (.int .u8 37),PT 28 25 27,MV 18 28]).seq (C.cond (.t 18) ((C.ops [MC 2 (i6 2)]).seq C.ret) ((C.ops [MV 30
 0,BC 31 .geq 30 (.int .u8 48),MV 32 31,MG 33 32 true 0,PC 34 32 true (.bin .leq) 33 (.int .u8 57),PF 35 32 34,MV 29 35]).seq (C.cond (.t 29) ((C.ops [MC 2 (i6 3)]).seq C.ret)
 ((C.ops [MV 37 0,BC 38 .eql 37 (.int .u8 39),MV 36 38]).seq (C.cond (.t 36) ((C.ops [MC 2 (i6 4)]).seq C.ret) ((C.ops [MV 40 0,BC 41 .eql 40 (.int .u8 46),MV 42 41,MG 43 42
 false 0,PC 44 42 false (.bin .eql) 43 (.int .u8 44),PT 45 42 44,MV 46 45,MG 47 46 false 0,PC 48 46 false (.bin .eql) 47 (.int .u8 59),PT 49 46 48,MV 50 49,MG 51 50 false 0,
 PC 52 50 false (.bin .eql) 51 (.int .u8 58),PT 53 50 52,MV 54 53,MG 55 54 false 0,PC 56 54 false (.bin .eql) 55 (.int .u8 33),PT 57 54 56,MV 58 57,MG 59 58 false 0,PC 60 58
 false (.bin .eql) 59 (.int .u8 63),PT 61 58 60,MV 62 61,MG 63 62 false 0,PC 64 62 false (.bin .eql) 63 (.int .u8 40),PT 65 62 64,MV 66 65,MG 67 66 false 0,PC 68 66 false
 (.bin .eql) 67 (.int .u8 41),PT 69 66 68,MV 70 69,MG 71 70 false 0,PC 72 70 false (.bin .eql) 71 (.int .u8 45),PT 73 70 72,MV 39 73]).seq (C.cond (.t 39) ((C.ops [MC 2 (i6
 5)]).seq C.ret) ((C.ops [MV 75 0,BC 76 .eql 75 (.int .u8 32),MV 74 76]).seq (C.cond (.t 74) ((C.ops [MC 2 (i6 6)]).seq C.ret) C.skip))))))))))))).seq ((C.ops [MC 2 (i6 0)]).seq
 C.ret)))
theorem qyG:qE Tryz.prog 257 77 0 [RV.tmp 2] qw4:=fi Tryz.f257 [] zr []
def qxb:C:=
 ((C.ops [MC 2 (i6 0)]).seq ((C.block 0 ((C.ops [MV 4 0,BC 5 .geq 4 (.int .u8 97),MV 6 5,MG 7 6 true 0,PC 8 6 true (.bin .leq) 7 (.int .u8 122),PF 9 6 8,MV 10 9,MG 11 10
 false 0,PC 12 10 false (.bin .geq) 11 (.int .u8 65),MG 13 10 false 12,MG 14 13 true 0,PC 15 13 true (.bin .leq) 14 (.int .u8 90),QF 16 10 false 13 15,PT 17 10 16,MV 3
 17]).seq (C.cond (.t 3) ((C.ops [MC 2 (i6 1)]).seq C.ret) ((C.ops [MV 19 0,BC 20 .eql 19 (.int .u8 94),MV 21 20,MG 22 21 false 0,PC 23 21 false (.bin .eql) 22 (.int .u8 126),
 PT 24 21 23,MV 25 24,MG 26 25 false 0,PC 27 25 false (.bin .eql) 26 (.int .u8 37),PT 28 25 27,MV 18 28]).seq (C.cond (.t 18) ((C.ops [MC 2 (i6 2)]).seq C.ret) ((C.ops [MV 30
 0,BC 31 .geq 30 (.int .u8 48),MV 32 31,MG 33 32 true 0,PC 34 32 true (.bin .leq) 33 (.int .u8 57),PF 35 32 34,MV 29 35]).seq (C.cond (.t 29) ((C.ops [MC 2 (i6 3)]).seq C.ret)
 ((C.ops [MV 37 0,BC 38 .eql 37 (.int .u8 39),MV 36 38]).seq (C.cond (.t 36) ((C.ops [MC 2 (i6 4)]).seq C.ret) ((C.ops [MV 40 0,BC 41 .eql 40 (.int .u8 32),MV 39 41]).seq
 (C.cond (.t 39) ((C.ops [MC 2 (i6 6)]).seq C.ret) ((C.ops [MV 43 0,BC 44 .neq 43 (.int .u8 0),MV 45 44,MG 46 45 true 0,PN 47 45 true (.call 305 true) [.c (.str [46,44,59,58,
 33,63,40,41,45]),.t 46],PC 48 45 true (.bin .geq) 47 (i6 0),PF 49 45 48,MV 42 49]).seq (C.cond (.t 42) ((C.ops [MC 2 (i6 5)]).seq C.ret) C.skip))))))))))))).seq ((C.ops [MC
 2 (i6 0)]).seq
 C.ret)))
theorem qyN:qE Tryz.prog 285 50 0 [RV.tmp 2] qxb:=fi Tryz.f285 [] zr []
def qxf:C:=
 ((C.ops [ON 2 (.nilo 0 1 4) []]).seq ((C.ops [⟨some 5,none,.bslc 1 1 0 4 [.bool false] [],[]⟩,MV 3 5]).seq (((C.ops [MC 4 (i6 0)]).seq (C.block 0 (((C.ops [MV 6 4,MV 7 0,O1 8
 .slen 7,BI 9 .lss 6 8]).seq (C.cond (.t 9) C.skip (C.exit 0))).seq ((C.block 1 (C.ops [MV 12 3,MV 13 0,MV 14 4,O2 15 .sidx 13 14,O1 16 (.call 257 true) 15,BC 17 .eql 16 (i6
 2),MV 18 17,MG 19 18 true 4,PC 20 18 true (.bin .gtr) 19 (i6 0),PF 21 18 20,MV 22 21,MG 23 22 true 0,MG 24 22 true 4,PC 25 22 true (.bin .sub) 24 (i6 1),P2 26 22 true
 .sidx 23 25,P1 27 22 true (.call 257 true) 26,PC 28 22 true (.bin .eql) 27 (i6 1),MG 29 22 true 28,MG 30 29 false 3,MG 31 29 false 4,PC 32 29 false (.bin .sub) 31 (i6 1),P2
 33 29 false (.idxA 1) 30 32,P1 34 29 false (.load none) 33,QT 35 22 true 29 34,PF 36 22 35,⟨some 37,none,.bslc 2 1 1 4 [.bool false] [(0,1)],[.t 36]⟩,O2 38 (.app 3 1 4 1)
 12 37,MV 3 38])).seq (C.ops [MV 10 4,BC 11 .add 10 (i6 1),MV 4 11]))).loop)).seq ((C.ops [MV 39 3,MV 2 39]).seq
 C.ret))))
theorem qyS:qE Tryz.prog 298 40 4 [RV.tmp 2] qxf:=fi Tryz.f298 [2,5,37,38] zr []
def qxh:C:=
 ((C.ops [MC 4 (i6 0)]).seq ((C.ops [MV 5 0,MV 6 1,O2 7 (.call 280 true) 5 6,MV 4 7]).seq
 C.ret))
theorem qyU:qE Tryz.prog 305 8 0 [RV.tmp 4] qxh:=fi Tryz.f305 [] zr []
def qkF:C:=
 ((C.ops [MC 2 (.bool false)]).seq (((C.ops [MV 4 0,BC 5 .eql 4 (.str []),MV 6 5,MG 7 6 false 0,P1 8 6 false .slen 7,PC 9 6 false (.bin .gtr) 8 (i6 64),PT 10 6 9,MV 11 10,MG
 12 11 false 0,P1 13 11 false (.call 288 true) 12,PC 14 11 false (.bin .neq) 13 (i6 0),PT 15 11 14]).seq (C.cond (.t 15) ((C.ops [MC 2 (.bool false)]).seq C.ret) C.skip)).seq
 (((C.ops [MV 16 0,OC 17 .sidx 16 (i6 0),O1 18 (.call 285 true) 17,MV 3 18]).seq ((C.ops [MV 19 3,BC 20 .neq 19 (i6 1),MV 21 20,MG 22 21 true 3,PC 23 21 true (.bin .neq) 22
 (i6 3),PF 24 21 23]).seq (C.cond (.t 24) ((C.ops [MC 2 (.bool false)]).seq C.ret) C.skip))).seq ((C.ops [MV 25 0,O1 26 .s2b 25,OC 27 (.call 289 true) 26 (.fn (Fn.func 290) []
 []),O1 28 (.un UnOp.not) 27,MV 2 28]).seq
 C.ret))))
theorem qhb:qE Tryz.prog 247 29 0 [RV.tmp 2] qkF:=fi Tryz.f247 [] zr []
def qsS:C:=
 ((C.ops [⟨some 2,none,.alloc 0 35 [i6 0],[]⟩]).seq (((C.ops [MV 6 0,O1 7 .slen 6,BC 8 .gtr 7 (i6 65536)]).seq (C.cond (.t 8) ((C.ops [⟨none,none,.store 1,[.t 2,.c (i6
 4)]⟩]).seq C.ret) C.skip)).seq (((C.ops [MV 9 0,O1 10 (.call 307 true) 9]).seq (C.block 0 (C.range (.t 10) [11,12] (C.ops [MV 4 12]) (C.block 1 ((C.ops [MV 13 4,OC 14 .sidx 13
 (i6 0),O1 15 (.call 285 true) 14,MV 5 15]).seq ((C.ops [MV 16 5,BC 17 .eql 16 (i6 0),MV 18 17,MG 19 18 false 5,PC 20 18 false (.bin .eql) 19 (i6 2),PT 21 18 20]).seq (C.cond
 (.t 21) ((C.ops [⟨none,none,.store 1,[.t 2,.c (i6 11)]⟩]).seq C.ret) C.skip))))))).seq ((C.ops [⟨none,none,.store 1,[.t 2,.c (i6 0)]⟩]).seq
 C.ret))))
theorem qrK:qE Tryz.prog 288 22 1 [RV.cell 2 none] qsS:=fi Tryz.f288 [2] zr []
def qxd:C:=
 ((C.ops [MC 4 (.bool false)]).seq ((C.ops [MV 5 0,MV 6 1,O2 7 (.call 308 true) 5 6,BC 8 .geq 7 (i6 0),MV 4 8]).seq
 C.ret))
theorem qyP:qE Tryz.prog 289 9 0 [RV.tmp 4] qxd:=fi Tryz.f289 [] zr []
def qxe:C:=
 ((C.ops [MC 2 (.bool false)]).seq ((C.ops [MV 4 0,O1 5 (.call 285 true) 4,MV 3 5]).seq ((C.ops [MV 6 3,BC 7 .eql 6 (i6 5),MV 8 7,MG 9 8 false 3,PC 10 8 false (.bin .eql) 9
 (i6 6),PT 11 8 10,MV 2 11]).seq
 C.ret)))
theorem qyQ:qE Tryz.prog 290 12 0 [RV.tmp 2] qxe:=fi Tryz.f290 [] zr []
def qxi:C:=
 ((C.ops [O1 1 (.box 0 9) 0,MC 2 .nilfn]).seq ((C.ops [O1 3 (.mkfn (Fn.func 315) 0) 1,MV 2 3]).seq
 C.ret))
theorem qyV:qE Tryz.prog 307 4 1 [RV.tmp 2] qxi:=fi Tryz.f307 [1] zr []
def qxj:C:=
 ((C.ops [MC 4 (i6 0)]).seq (((C.ops [MV 6 0,O1 7 .len 6,MC 8 (i6 0)]).seq (C.block 0 ((C.ops [BI 9 .lss 8 7]).seq ((C.cond (.t 9) C.skip (C.exit 0)).seq ((C.block 1 ((C.ops [MV
 10 8,MV 5 10]).seq ((C.ops [MV 11 1,MV 12 0,MV 13 5,O2 14 (.idxA 1) 12 13,LD 15 14,O2 16 .callv 11 15]).seq (C.cond (.t 16) ((C.ops [MV 17 5,MV 4 17]).seq C.ret)
 C.skip)))).seq (C.ops [BC 18 .add 8 (i6 1),MV 8 18])))).loop)).seq ((C.ops [MC 4 (i6 (-1))]).seq
 C.ret)))
theorem qyW:qE Tryz.prog 308 19 0 [RV.tmp 4] qxj:=fi Tryz.f308 [] zr []
def qsW:C:=
 ((C.ops [MC 4 (.bool false)]).seq ((C.ops [MV 5 0,O1 6 .slen 5,MV 7 1,O1 8 .slen 7,BI 9 .geq 6 8,MV 10 9,MG 11 10 true 0,MG 12 10 true 1,P1 13 10 true .slen 12,P2 14 10
 true (.sslc false true) 11 13,MG 15 10 true 1,P2 16 10 true (.bin .eql) 14 15,PF 17 10 16,MV 4 17]).seq
 C.ret))
theorem qrO:qE Tryz.prog 314 18 0 [RV.tmp 4] qsW:=fi Tryz.f314 [] zr []
def qkH:C:=
 ((C.ops [MC 4 (.bool false)]).seq ((C.ops [MV 5 0,O1 6 .slen 5,MV 7 1,O1 8 .slen 7,BI 9 .geq 6 8,MV 10 9,MG 11 10 true 0,MG 12 10 true 0,P1 13 10 true .slen 12,MG 14 10
 true 1,P1 15 10 true .slen 14,P2 16 10 true (.bin .sub) 13 15,P2 17 10 true (.sslc true false) 11 16,MG 18 10 true 1,P2 19 10 true (.bin .eql) 17 18,PF 20 10 19,MV 4
 20]).seq
 C.ret))
theorem qhd:qE Tryz.prog 304 21 0 [RV.tmp 4] qkH:=fi Tryz.f304 [] zr []
def qxk:C:=
 ((C.ops [MC 3 (i6 0)]).seq ((C.ops [MC 4 (i6 1)]).seq (C.block 0 (((C.ops [MV 5 4,LD 6 1,O1 7 .slen 6,BI 8 .leq 5 7]).seq (C.cond (.t 8) C.skip (C.exit 0))).seq ((C.block 1
 (((C.ops [MV 11 4,LD 12 1,O1 13 .slen 12,BI 14 .lss 11 13,MV 15 14,P1 16 15 true (.load none) 1,MG 17 15 true 4,P2 18 15 true .sidx 16 17,P1 19 15 true (.call 285 true) 18,
 PC 20 15 true (.bin .eql) 19 (i6 2),PF 21 15 20,MV 22 21,P1 23 22 true (.load none) 1,MG 24 22 true 3,MG 25 22 true 4,PN 26 22 true (.call 316 true) [.t 23,.t 24,.t 25],PF
 27 22 26]).seq (C.cond (.t 27) (C.exit 1) C.skip)).seq (((C.ops [MV 28 0,MV 29 3,LD 30 1,MV 31 3,MV 32 4,ON 33 (.sslc true true) [.t 30,.t 31,.t 32],ON 34 .callv [.t 28,.t
 29,.t 33],O1 35 (.un UnOp.not) 34]).seq (C.cond (.t 35) C.ret C.skip)).seq (C.ops [MV 36 4,MV 3 36])))).seq (C.ops [MV 9 4,BC 10 .add 9 (i6 1),MV 4
 10]))).loop)))
theorem qyX:qE Tryz.prog 315 37 0 [] qxk:=fi Tryz.f315 [] zr []
def qxl:C:=
 ((C.ops [MC 6 (.bool false)]).seq ((C.ops [MV 7 0,MV 8 1,O2 9 .sidx 7 8,O1 10 (.call 285 true) 9,BC 11 .eql 10 (i6 1),MV 12 11,MG 13 12 true 2,MG 14 12 true 1,P2 15 12 true
 (.bin .gtr) 13 14,PF 16 12 15,MV 6 16]).seq
 C.ret))
theorem qyY:qE Tryz.prog 316 17 0 [RV.tmp 6] qxl:=fi Tryz.f316 [] zr []
end
section
namespace HY
def qfb(n:Int):Int:=
 if (97≤n∧n≤122)∨(65≤n∧n≤90) then 1
 else if n=94∨n=126∨n=37 then 2
 else if 48≤n∧n≤57 then 3
 else if n=39 then 4
 else if n=32 then 6
 else if n=46∨n=44∨n=59∨n=58∨n=33∨n=63∨n=40∨n=41∨n=45 then 5
 else 0
def zG(b:UInt8):Int:=qfb b.toNat
def ch(s:List UInt8)(i:Nat):UInt8:=s.getD i 0
theorem jE(s:List UInt8)(i:Nat):(s[i]?).getD 0=ch s i:=by rw[ch,gdqA]
def qac(frm:Nat)(cur:List UInt8):List UInt8→List (Nat×List UInt8)
 | []=> [(frm,cur)]
 |c::r=>if zG c=2∧zG (ch cur 0)=1 then qac frm (cur++ [c]) r else (frm,cur)::qac (frm+cur.length) [c] r
def zi:List UInt8→List (Nat×List UInt8)
 | []=> []
 |c::r=>qac 0 [c] r
def qfH(s:List UInt8):List (List UInt8):=(zi s).map (·.2)
theorem qoU(frm:Nat)(cur r:List UInt8):qac frm cur r≠ []:=by
 induction r generalizing frm cur with
 |nil=>simp[qac]
 |cons c r ih=>simp only[qac];split;exact ih _ _;simp
theorem qk3{frm:Nat}{cur r:List UInt8}(hc:cur≠ []): ∀x∈qac frm cur r,x.2≠ []:=by
 induction r generalizing frm cur with
 |nil=>intro x hx;simp[qac]at hx;subst hx;exact hc
 |cons c r ih=>
  intro x hx;simp only[qac]at hx;split at hx
  ·exact ih (by simp) x hx
  ·rcases List.mem_cons.1 hx with rfl|hx
   ·exact hc
   ·exact ih (by simp) x hx
theorem qth{s:List UInt8}: ∀x∈qfH s,x≠ []:=by
 cases s with
 |nil=>intro x hx;simp[qfH,zi]at hx
 |cons c r=>
  intro x hx;simp only[qfH,zi,List.mem_map]at hx;obtain⟨y,hy,rfl⟩:=hx;exact qk3 (by simp) y hy
def zx(s:List UInt8):Nat→Bool
 |0=>false
 |i+1=>decide (zG (ch s (i+1))=2)&&(decide (zG (ch s i)=1)||zx s i)
def qce(s:List UInt8):List Bool:=(List.range s.length).map (zx s)
theorem qdO{s:List UInt8}{i:Nat}(h:i<s.length):(qce s).getD i false=zx s i:=by simp[qce,gdqA,h]
def qb6(s:List UInt8)(f i:Nat):Prop:=f<i∧(decide (zG (ch s (i-1))=1)||zx s (i-1))=decide (zG (ch s f)=1)
theorem qb7{s:List UInt8}{f i:Nat}(h:qb6 s f i):zx s i=(decide (zG (ch s i)=2)&&decide (zG (ch s f)=1)):=by
 obtain⟨h1,h2⟩:=h;cases i with
 |zero=>omega
 |succ i=>simp only[zx];rw[←h2];rfl
theorem qe5(s:List UInt8):qb6 s 0 1:=⟨by omega,by simp[zx]⟩
theorem qlR{s:List UInt8}{f i:Nat}(h:qb6 s f i)(hr:zx s i=true):qb6 s f (i+1):=by
 have h3:=qb7 h;rw[hr]at h3;refine⟨by have:=h.1;omega,?_⟩;rw[Nat.add_sub_cancel,hr,Bool.or_true];symm at h3;simp only[Bool.and_eq_true]at h3;exact h3.2.symm
theorem qiv{s:List UInt8}{f i:Nat}(h:qb6 s f i)(hr:zx s i=false):qb6 s i (i+1):=
 ⟨by omega,by rw[Nat.add_sub_cancel,hr,Bool.or_false]⟩
def zB(c:List UInt8):Bool:=decide (zG (ch c 0)=0)||decide (zG (ch c 0)=2)
def qaU(s:List UInt8):Int:=if 65536<s.length then 4 else if (qfH s).any zB then 11 else 0
def qak(s:List UInt8):Bool:=
 decide (0<s.length)&&decide (s.length≤64)&&decide (qaU s=0)&&(decide (zG (ch s 0)=1)||decide (zG (ch s 0)=3))&& !(s.any fun c=>decide (zG c=5)||decide (zG c=6))
end HY
end
section
namespace HY
def qrU(s p:List UInt8):Bool:=decide (s.take p.length=p)
def qrV(s p:List UInt8):Bool:=decide (s.drop (s.length-p.length)=p)
def qaW(s:List UInt8)(i:Nat):Bool:=decide (zG (ch s i)=0)||(decide (zG (ch s i)=2)&& !zx s i)
end HY
end
section
set_option linter.all false
set_option linter.unusedSimpArgs false
set_option linter.unusedVariables false
set_option linter.unusedSectionVars false
open Go Go.Proofs AF HY
namespace HY
def strs(l:List (List UInt8)):AV:= .sl l.length fun i=> [.str (l.getD i [])]
theorem qwb {P : Program} {f : FuncId} {fn : Func} (h : P.funcs[f]? = some fn) (h1 : fn.body.isSome = true) (h2 : (fn.name != "runtime.NumGoroutine") = true) : okF P f = true := by
 unfold okF;rw[h];simp[h1,h2]
theorem qEi(s:List UInt8)(c:Int)(h:List AObj):ACalls Tryz.prog 280 [.str s,.int .u8 c] h (.int .i64 (Go.Lib.indexByte s c.toNat.toUInt8)) h:=by
 refine⟨qwb Tryz.func280 (by kernel_rfl) (by kernel_rfl),fun w σ xs H hv=> ?_⟩;obtain⟨x,y,rfl,hx,hy⟩:=hv.two;rw[zU hx,zf hy];refine (callsIn_wide.2 (qhh ⟨s.toArray⟩ c w)).mono ?_;rintro e w' ⟨rfl,rfl⟩;exact⟨_,σ,rfl,H,.imm .int,Ext.refl _ _⟩
theorem qEg(s:List UInt8)(c:Int)(h:List AObj):ACalls Tryz.prog 305 [.str s,.int .u8 c] h (.int .i64 (Go.Lib.indexByte s c.toNat.toUInt8)) h:=by
 refine qv qyU (by simp) ?_;simp only[List.length_cons,List.length_nil,Nat.reduceAdd,Nat.reduceSub,List.replicate,List.cons_append,List.nil_append,List.append_nil];simp (disch:=omega) only[qxh,go_sem,qo,dvP,mdP]
 repeat' first
  |(refine qz (qEi s c _) ?_ ?_;exact flk;simp (disch:=omega) only[go_sem,qo,dvP,mdP])
  |(apply qd;exact rvk;simp only[go_sem];exact qj)
theorem qmJ: ∀n:Fin 256,(0≤Go.Lib.indexByte [46,44,59,58,33,63,40,41,45] (UInt8.ofNat n.val))↔(n.val=46∨n.val=44∨n.val=59∨n.val=58∨n.val=33∨n.val=63∨n.val=40∨n.val=41∨n.val=45):=by decide+kernel
theorem qC8(n:Int)(h:List AObj)(n0:0≤n)(n1:n≤255):ACalls Tryz.prog 285 [.int .u8 n] h (.int .i64 (qfb n)) h:=by
 obtain⟨m,rfl⟩: ∃m:Nat,n=m:=⟨n.toNat,by omega⟩
 have hp:=qmJ ⟨m,by omega⟩;simp only at hp;obtain⟨q,hq⟩: ∃q,q=Go.Lib.indexByte [46,44,59,58,33,63,40,41,45] (UInt8.ofNat m):=⟨_,rfl⟩
 rw[←hq]at hp;have hc: ∀h,ACalls Tryz.prog 305 [.str [46,44,59,58,33,63,40,41,45],.int .u8 (m:Int)] h (.int .i64 q) h:=fun h=>by rw[hq];exact qEg _ _ h
 refine qv qyN (by simp) ?_;simp only[List.length_cons,List.length_nil,Nat.reduceAdd,Nat.reduceSub,List.replicate,List.cons_append,List.nil_append,List.append_nil];simp (disch:=omega) only[qxb,go_sem,qo,dvP,mdP]
 repeat' first
  |(refine qK (fun e=>⟨?_,hc _⟩) ?_;exact flk;simp (disch:=omega) only[go_sem,qo,dvP,mdP])
  |(apply qd;exact rvk;simp only[go_sem];apply qg)
  |with_reducible first|intro _|apply aiA
 all_goals first
  |omega
  |(unfold qfb;(repeat' split)<;>omega)
theorem qDa(n:Int)(h:List AObj):ACalls Tryz.prog 257 [.int .u8 n] h (.int .i64 (qfb n)) h:=by
 refine qv qyG (by simp) ?_;simp only[List.length_cons,List.length_nil,Nat.reduceAdd,Nat.reduceSub,List.replicate,List.cons_append,List.nil_append,List.append_nil];simp (disch:=omega) only[qw4,go_sem,qo,dvP,mdP]
 repeat' first
  |(apply qd;exact rvk;simp only[go_sem];apply qg)
  |with_reducible first|intro _|apply aiA
 all_goals first
  |omega
  |grind [qfb]
end HY
end
section
set_option linter.all false
set_option linter.unusedSimpArgs false
set_option linter.unusedVariables false
set_option linter.unusedSectionVars false
open Go Go.Proofs AF HY
namespace HY
theorem _root_.AF.LowI.ret{h hh:List AObj}{ts:List AV}{L:LInfo}(s:LS)(hl:LowI h hh)(hts: ∀c∈ts,jb (h.length+1) c=true):
  (hh++ [AObj.lp s ts L]).length=(h++ [AObj.lp .ready ts L]).length∧ ∀o∈hh++ [AObj.lp s ts L],o∈h++ [AObj.lp .ready ts L]∨qan (h++ [AObj.lp .ready ts L]).length o:=by
 refine⟨by simp[hl.1],fun o ho=> ?_⟩;rw[List.length_append,List.length_singleton];rcases List.mem_append.1 ho with ho|ho
 ·rcases hl.2 o ho with h1|h1
  ·exact .inl (List.mem_append_left _ h1)
  ·exact .inr h1.2
 ·rw[List.mem_singleton]at ho;subst ho;exact .inr hts
theorem qhI(b:UInt8):0≤((b.toNat:Nat):Int)∧((b.toNat:Nat):Int)≤255:=by
 have:=b.toNat_lt
 omega
theorem qdp(b:UInt8)(h:List AObj):ACalls Tryz.prog 285 [.int .u8 (b.toNat:Int)] h (.int .i64 (zG b)) h:=qC8 _ h (qhI b).1 (qhI b).2
theorem qdq(b:UInt8)(h:List AObj):ACalls Tryz.prog 257 [.int .u8 (b.toNat:Int)] h (.int .i64 (zG b)) h:=qDa _ h
theorem qcN{s:List UInt8}{f i:Nat}(hf:f<i)(hi:i<s.length):qac f ((s.drop f).take (i-f)) (s.drop i)=if zG (ch s i)=2∧zG (ch s f)=1 then qac f ((s.drop f).take (i+1-f)) (s.drop (i+1)) else (f,(s.drop f).take (i-f))::qac i ((s.drop i).take (i+1-i)) (s.drop (i+1)):=by
 have e1:s.drop i=ch s i::s.drop (i+1):=by rw[List.drop_eq_getElem_cons hi];simp[ch,hi]
 have e2:ch ((s.drop f).take (i-f)) 0=ch s f:=by simp[ch,gdqA,List.getElem?_take,show 0<i-f by omega]
 have e3:(s.drop f).take (i+1-f)=(s.drop f).take (i-f)++ [ch s i]:=by
  rw[show i+1-f=(i-f)+1 by omega,List.take_add_one,List.getElem?_drop,show f+(i-f)=i by omega];simp[ch,gdqA,hi]
 have e4:f+((s.drop f).take (i-f)).length=i:=by rw[List.length_take,List.length_drop];omega
 have e5:(s.drop i).take (i+1-i)= [ch s i]:=by rw[e1,show i+1-i=1 by omega];rfl
 rw[e5,e1];simp only[qac,e2,e4,e3]
end HY
end
section
set_option linter.all false
set_option linter.unusedSimpArgs false
set_option linter.unusedVariables false
set_option linter.unusedSectionVars false
open Go Go.Proofs AF HY
namespace HY
def qcG(l:List Bool):AV:= .sl l.length fun i=> [.bool (l.getD i false)]
theorem qsc{cs:List AV}{n m k:Nat}{f:Nat→List AV}{fz:Nat→Bool}{h:List AObj}(e:cs.length=m)(ek:k=m)(hf: ∀i c,cs[i]? =some c→f i= [c])(hr: ∀c∈cs,rei fz h (n+1) c=c):VLe (.sl m fun i=>((List.drop i cs).take 1).map (rei fz h (n+1))) (.sl k f):=by
 subst e ek;refine qwj rfl (fun i hi=> ?_);rw[List.drop_eq_getElem_cons hi,hf i cs[i] (qY hi)];show [rei fz h (n+1) cs[i]]=_;rw[hr cs[i] (List.getElem_mem hi)]
def jn(l:List (List UInt8)):List AV:=l.map .str
theorem jR(l:List (List UInt8)):(jn l).length=l.length:=by simp[jn]
theorem qb0{l:List (List UInt8)}{n m:Nat}{fz:Nat→Bool}{h:List AObj}(e:l.length=m):VLe (.sl m fun i=>((List.drop i (jn l)).take 1).map (rei fz h (n+1))) (strs l):=by
 subst e;refine qsc (jR l) rfl (fun i c hc=> ?_) (fun c hc=> ?_)
 ·unfold jn at hc;rw[List.getElem?_map,Option.map_eq_some_iff]at hc;obtain⟨x,hx,rfl⟩:=hc;simp[gdqA,hx]
 ·unfold jn at hc;rw[List.mem_map]at hc;obtain⟨x,_,rfl⟩:=hc;rfl
def kW(s:List UInt8)(i:Nat):List AV:=(List.range i).map fun j=>AV.bool (zx s j)
theorem qc9(s:List UInt8)(i:Nat):kW s (i+1)=kW s i++ [.bool (zx s i)]:=by simp[kW,List.range_succ]
theorem qbT(s:List UInt8)(i:Nat):(kW s i).length=i:=by simp[kW]
theorem t95(s:List UInt8)(h:List AObj)(hs:s.length≤1000000000):ACalls Tryz.prog 298 [.str s] h (qcG (qce s)) h:=by
 refine qv qyS (by simp) ?_;simp only[List.length_cons,List.length_nil,Nat.reduceAdd,Nat.reduceSub,List.replicate,List.cons_append,List.nil_append,List.append_nil];simp (disch:=omega) only[qxf,zu,go_sem,qo,dvP,mdP]
 all_goals first
  |omega
  |(simp;done)
  |skip
 refine qp (T:=fun i:Nat×Nat×AObj=>qQ 40 [(0,.str s),(3,.osl (h.length+1) i.2.1 1 0 i.1),(4,.int .i64 i.1)]) (H:=fun i=>h++ [.emp 1,.mem i.2.1 4 (kW s i.1),i.2.2,.emp 0])
  (inv:=fun i=>i.1≤s.length∧qH [i.2.2] 0=true) (m:=fun i=>s.length-i.1) (0,1,.emp 0) ⟨by simp only;omega,rfl⟩ (Wk.temps ?_) ?_
 ·(simp only[qQ,List.foldl,go_sem,qi,qe,qa,qh];try (repeat' first|(with_reducible apply aiA)|(apply qg;omega)|(apply qf;rfl)|exact qj))
 ·rintro⟨i,v,O⟩ ⟨i1,i2⟩ K hK;simp only at i1 i2 hK;have i2': ∀m,qH (O::m) 0=true:=fun _=>i2
  have eL:=qbT s i;have eT:List.take i (kW s i)=kW s i:=ltl (by omega)
  by_cases hi:i<s.length
  ·cases i with
   |zero=>
    have hz:(((0:Nat):Int)<(s.length:Int))=True:=eqt (by omega);have hz0:((0:Nat):Int)=0:=rfl;have hlt:((0:Int)<0)=False:=eqf (by omega);have hc0:kW s 0= []:=rfl;have hz1:((0:Int)<(s.length:Int))=True:=eqt (by omega);have hR:zx s 0=false:=rfl
    by_cases hk0:zG (ch s 0)=2
    all_goals
     simp (disch:=omega) only[qQ,List.foldl,jE,i2',zu,hz0,hlt,hc0,hz1,hk0,go_sem,qo,dvP,mdP]
     repeat' first
      |(refine qk ((.int .i64 0)) ?_;simp (disch:=omega) only[jE,i2',zu,hz0,hlt,hc0,hk0,go_sem,qo,dvP,mdP])
      |(refine qz (qdq _ _) ?_ ?_;exact flk;simp (disch:=omega) only[jE,i2',zu,hz0,hlt,hc0,hk0,go_sem,qo,dvP,mdP])
      |with_reducible first|intro _|apply aiA
     all_goals try exact clz
     refine hK _ _ (0+1,v+1,.mem (qr (some O)+1) 4 [.bool (zx s 0)]) ⟨by simp only;omega,rfl⟩ (by simp only;omega) ?_;rw[qc9];simp only[hR,hc0,List.nil_append];refine Wk.temps ?_
     (simp only[qQ,List.foldl,go_sem,qi,qe,qa,qh];try (repeat' first|(with_reducible apply aiA)|(apply qg;omega)|(apply qf;rfl)|exact qj))
   |succ i=>
    have hx:(((i+1:Nat):Int)-1).toNat=i:=by omega
    have hg:(kW s (i+1))[i]? =some (.bool (zx s i)):=by simp[kW]
    have hp:(0<((i+1:Nat):Int))=True:=eqt (by omega);simp (disch:=omega) only[qQ,List.foldl,jE,i2',eL,eT,zu,hx,hg,hp,go_sem,qo,dvP,mdP]
    repeat' first
     |(refine qz (qdq _ _) ?_ ?_;exact flk;simp (disch:=omega) only[jE,i2',eL,eT,zu,hx,hg,hp,go_sem,qo,dvP,mdP])
     |(refine qK (fun e=>⟨?_,qdq _ _⟩) ?_;exact flk;simp (disch:=omega) only[jE,i2',eL,eT,zu,hx,hg,hp,go_sem,qo,dvP,mdP])
     |(apply qb;exact rvk;simp only[go_sem])
     |with_reducible first|intro _|apply aiA
    all_goals first
     |omega
     |(simp;done)
     |skip
    refine hK _ _ (i+1+1,v+1,.mem (qr (some O)+1) 4 [.bool (zx s (i+1))]) ⟨by simp only;omega,rfl⟩ (by simp only;omega) ?_;rw[qc9 s (i+1)];simp only[zx];refine Wk.temps ?_
    (simp only[qQ,List.foldl,go_sem,qi,qe,qa,qh];try (repeat' first|(with_reducible apply aiA)|(apply qg;omega)|(apply qf;rfl)|exact qj))
  ·have e:i=s.length:=by omega
   subst e;simp (disch:=omega) only[qQ,List.foldl,eL,go_sem,qo,dvP,mdP]
   repeat' first
    |(apply qb;exact rvk;simp only[go_sem])
    |with_reducible first|intro _|apply aiA
   all_goals first
    |omega
    |skip
   have hrl:(qce s).length=s.length:=by simp[qce]
   unfold qcG;rw[ipo (by omega)];refine qsc (qbT s _) hrl (fun i c hc=> ?_) (fun c hc=> ?_)
   ·have hi:=(List.getElem?_eq_some_iff.1 hc).1;rw[qbT]at hi;rw[qdO hi];simp[kW,hi]at hc;rw[hc]
   ·simp[kW]at hc;obtain⟨x,_,rfl⟩:=hc;rfl
end HY
end
section
set_option linter.all false
set_option linter.unusedSimpArgs false
set_option linter.unusedVariables false
set_option linter.unusedSectionVars false
open Go Go.Proofs AF HY
namespace HY
theorem qdg(s:List UInt8){f i:Nat}(h:f≤i)(hi:i<s.length):(s.drop f).take (i+1-f)=(s.drop f).take (i-f)++ [ch s i]:=by
 rw[show i+1-f=(i-f)+1 by omega,List.take_add_one,List.getElem?_drop,show f+(i-f)=i by omega];simp[ch,gdqA,hi]
theorem qr6(s:List UInt8){i:Nat}(hi:i<s.length):(s.drop i).take (i+1-i)= [ch s i]:=by
 rw[qdg s (nlr _) hi,Nat.sub_self];rfl
def done(s:List UInt8)(D:List (List UInt8))(f i:Nat):Prop:=qb6 s f i∧i≤s.length∧qfH s=D++(qac f ((s.drop f).take (i-f)) (s.drop i)).map (·.2)
theorem qif{s:List UInt8}(h:0<s.length):done s [] 0 1:=by
 refine⟨qe5 s,h,?_⟩;cases s with
 |nil=>simp at h
 |cons c r=>simp[qfH,zi]
end HY
end
section
set_option linter.all false
set_option linter.unusedSimpArgs false
set_option linter.unusedVariables false
set_option linter.unusedSectionVars false
open Go Go.Proofs AF HY
namespace HY
theorem qk2{s:List UInt8}: ∀(k:Nat) {f i:Nat},s.length-i=k→qb6 s f i→i≤s.length→zB ((s.drop f).take (i-f))=zB [ch s f]→
  ((qac f ((s.drop f).take (i-f)) (s.drop i)).map (·.2)).any zB=(zB [ch s f]||(List.range' i (s.length-i)).any (qaW s)):=by
 intro k
 induction k with
 |zero=>
  intro f i hk hc hi hb;have e:i=s.length:=by omega
  subst e;rw[List.drop_length,Nat.sub_self];simp[qac,hb]
 |succ k ih=>
  intro f i hk hc hi hb;have hi':i<s.length:=by omega
  rw[qcN hc.1 hi'];rw[show s.length-i=(s.length-(i+1))+1 by omega,List.range'_succ,List.any_cons];have hr:=qb7 hc
  by_cases hg:zG (ch s i)=2∧zG (ch s f)=1
  ·rw[ipo hg];have hrt:zx s i=true:=by rw[hr];simp[hg]
   have hb2:zB ((s.drop f).take (i+1-f))=zB [ch s f]:=by
    rw[←hb];unfold zB;have e:ch ((s.drop f).take (i+1-f)) 0=ch ((s.drop f).take (i-f)) 0:=by
     have:=hc.1
     simp[ch,gdqA,List.getElem?_take,show 0<i-f by omega,show 0<i+1-f by omega]
    rw[e]
   rw[ih (by omega) (qlR hc hrt) hi' hb2]
   have:qaW s i=false:=by unfold qaW;rw[hrt,hg.1];rfl
   rw[this,Bool.false_or]
  ·rw[ine hg];have hrf:zx s i=false:=by
    rw[hr];cases h2:decide (zG (ch s i)=2)<;>cases h3:decide (zG (ch s f)=1)<;>simp_all
   simp only[List.map_cons,List.any_cons,hb];have h1:(s.drop i).take (i+1-i)= [ch s i]:=qr6 s hi';rw[ih (by omega) (qiv hc hrf) hi' (by rw[h1])]
   have:qaW s i=zB [ch s i]:=by unfold qaW zB;rw[hrf];simp[ch]
   rw[this]
theorem qoV(s:List UInt8):(qfH s).any zB=(List.range s.length).any (qaW s):=by
 cases hs:s with
 |nil=>rfl
 |cons c r=>
  rw[←hs];have h0:0<s.length:=by rw[hs];simp
  have hd:=qif h0;have h1:(s.drop 0).take (1-0)= [ch s 0]:=qr6 s h0
  have:=qk2 (s:=s) _ rfl hd.1 h0 (by rw[h1])
  rw[←List.nil_append ((qac 0 ((s.drop 0).take (1-0)) (s.drop 1)).map (·.2)),←hd.2.2]at this;rw[this,List.range_eq_range',show s.length=(s.length-1)+1 by omega,List.range'_succ,List.any_cons]
  have:qaW s 0=zB [ch s 0]:=by unfold qaW zB;simp[zx,ch]
  rw[this];simp
theorem qeO(s:List UInt8):qaU s=if 65536<s.length then 4 else if (List.range s.length).any (qaW s)=true then 11 else 0:=by unfold qaU;rw[qoV]
theorem qaS{p:Nat→Bool}{n i:Nat}(hi:i<n)(h:p i=true):(List.range n).any p=true:=List.any_eq_true.2 ⟨i,by simpa using hi,h⟩
theorem qaq{p:Nat→Bool}{n:Nat}(h: ∀i,i<n→p i=false):(List.range n).any p=false:=by
 rw[List.any_eq_false];intro i hi;simp at hi;rw[h i hi];simp
theorem qEf(s:List UInt8)(h:List AObj)(hs:s.length≤1000000000):ACalls Tryz.prog 266 [.str s] h (.int .i64 (qaU s)) h:=by
 rw[qeO]
 by_cases hl:65536<s.length
 ·have hl':(65536<(s.length:Int))=True:=eqt (by omega);rw[ipo hl];refine qv qrH (by simp) ?_;simp only[List.length_cons,List.length_nil,Nat.reduceAdd,Nat.reduceSub,List.replicate,List.cons_append,List.nil_append,List.append_nil];simp (disch:=omega) only[qsP,hl',go_sem,qo,dvP,mdP]
  repeat' first
   |(apply qd;exact rvk;simp only[go_sem];exact qj)
 ·have hl':(65536<(s.length:Int))=False:=eqf (by omega);rw[ine hl];refine qv qrH (by simp) ?_;simp only[List.length_cons,List.length_nil,Nat.reduceAdd,Nat.reduceSub,List.replicate,List.cons_append,List.nil_append,List.append_nil];simp (disch:=omega) only[qsP,hl',go_sem,qo,dvP,mdP]
  repeat' first
   |(refine qz (t95 s _ hs) ?_ ?_;exact flk;simp (disch:=omega) only[hl',qcG,go_sem,qo,dvP,mdP])
  refine qp (T:=fun i:Nat=>qQ 34 [(0,.str s),(3,qcG (qce s)),(4,.int .i64 i)]) (H:=fun _=>h) (inv:=fun i=>i≤s.length∧ ∀j,j<i→qaW s j=false) (m:=fun i=>s.length-i) 0 ⟨by omega,by omega⟩ (Wk.temps ?_) ?_
  ·(simp only[qcG,qQ,List.foldl,go_sem,qi,qe,qa,qh];try (repeat' first|(with_reducible apply aiA)|(apply qg;omega)|(apply qf;rfl)|exact qj))
  ·rintro i ⟨i1,i2⟩ K hK;have hrl:(qce s).length=s.length:=by simp[qce]
   by_cases hi:i<s.length
   ·have hg:=qdO hi
    by_cases hb:qaW s i=true
    ·rw[ipo (qaS hi hb)];unfold qaW at hb;simp (disch:=omega) only[qQ,List.foldl,qcG,hrl,hg,jE,go_sem,qo,dvP,mdP]
     repeat' first
      |(refine qz (qdq _ _) ?_ ?_;exact flk;simp (disch:=omega) only[qcG,hrl,hg,jE,go_sem,qo,dvP,mdP])
      |(apply qd;exact rvk;simp only[go_sem];first|exact qj|apply qg)
      |with_reducible first|intro _|apply aiA
     all_goals try exact clz
     all_goals
      refine hK _ _ (i+1) ⟨by omega,?_⟩ (by omega) (Wk.temps ?_)
      ·exfalso;grind
      ·(simp only[qcG,hrl,qQ,List.foldl,go_sem,qi,qe,qa,qh];try (repeat' first|(with_reducible apply aiA)|(apply qg;omega)|(apply qf;rfl)|exact qj))
    ·have hb':qaW s i=false:=by simpa using hb
     unfold qaW at hb;simp (disch:=omega) only[qQ,List.foldl,qcG,hrl,hg,jE,go_sem,qo,dvP,mdP]
     repeat' first
      |(refine qz (qdq _ _) ?_ ?_;exact flk;simp (disch:=omega) only[qcG,hrl,hg,jE,go_sem,qo,dvP,mdP])
      |(apply qd;exact rvk;simp only[go_sem];apply qg)
      |with_reducible first|intro _|apply aiA
     all_goals try exact clz
     all_goals first
      |(exfalso;grind)
      |skip
     all_goals
      refine hK _ _ (i+1) ⟨by omega,fun j hj=> ?_⟩ (by omega) (Wk.temps ?_)
      ·by_cases e:j=i
       ·subst e;exact hb'
       ·exact i2 j (by omega)
      ·(simp only[qcG,hrl,qQ,List.foldl,go_sem,qi,qe,qa,qh];try (repeat' first|(with_reducible apply aiA)|(apply qg;omega)|(apply qf;rfl)|exact qj))
   ·have e:i=s.length:=by omega
    subst e;rw[qaq i2];simp (disch:=omega) only[qQ,List.foldl,go_sem,qo,dvP,mdP]
    repeat' first
     |(apply qd;exact rvk;simp only[go_sem];exact qj)
     |with_reducible first|intro _|apply aiA
    all_goals try exact clz
end HY
end
section
set_option linter.all false
set_option linter.unusedSimpArgs false
set_option linter.unusedVariables false
set_option linter.unusedSectionVars false
open Go Go.Proofs AF HY
namespace HY
theorem qiw(b:UInt8):0≤zG b∧zG b≤6:=by
 unfold zG qfb
 (repeat' split)<;>omega
theorem qwo(s:List UInt8)(p:UInt8→Bool):(List.range s.length).any (fun i=>p (ch s i))=s.any p:=by
 rw[Bool.eq_iff_iff,List.any_eq_true,List.any_eq_true];constructor
 ·rintro⟨i,hi,h⟩;simp at hi;refine⟨s[i],List.getElem_mem hi,?_⟩;simpa[ch,hi] using h
 ·rintro⟨x,hx,h⟩;obtain⟨i,hi,rfl⟩:=List.mem_iff_getElem.1 hx;exact⟨i,by simpa using hi,by simpa[ch,hi] using h⟩
def spc(c:UInt8):Bool:=decide (zG c=5)||decide (zG c=6)
theorem qcZ(s:List UInt8):qak s=(decide (0<s.length)&&decide (s.length≤64)&&decide (qaU s=0)&&(decide (zG (ch s 0)=1)||decide (zG (ch s 0)=3))&& !((List.range s.length).any fun i=>spc (ch s i))):=by
 rw[qwo];rfl
theorem t93(s:List UInt8)(h:List AObj)(hs:s.length≤1000000000):ACalls Tryz.prog 216 [.str s] h (.bool (qak s)) h:=by
 obtain⟨c,hc⟩: ∃c,c=qaU s:=⟨_,rfl⟩
 have h118: ∀h:List AObj,ACalls Tryz.prog 266 [.str s] h (.int .i64 c) h:=fun h=>by rw[hc];exact qEf s h hs
 rw[qcZ,←hc]
 by_cases g0:0<s.length∧s.length≤64∧c=0∧(zG (ch s 0)=1∨zG (ch s 0)=3)
 ·obtain⟨g1,g2,g3,g4⟩:=g0;have e:(decide (0<s.length)&&decide (s.length≤64)&&decide (c=0)&&(decide (zG (ch s 0)=1)||decide (zG (ch s 0)=3)))=true:=by simp[g1,g2,g3,g4]
  rw[e,Bool.true_and];have k1:((s.length:Int)<1)=False:=eqf (by omega);have k2:(64<(s.length:Int))=False:=eqf (by omega);refine qv qeY (by simp) ?_;simp only[List.length_cons,List.length_nil,Nat.reduceAdd,Nat.reduceSub,List.replicate,List.cons_append,List.nil_append,List.append_nil];simp (disch:=omega) only[qhX,k1,k2,go_sem,qo,dvP,mdP]
  repeat' first
   |(refine qz (qdq _ _) ?_ ?_;exact flk;simp (disch:=omega) only[k1,k2,g3,jE,go_sem,qo,dvP,mdP])
   |(refine qK (fun e=>⟨?_,h118 _⟩) ?_;exact flk;simp (disch:=omega) only[k1,k2,g3,jE,go_sem,qo,dvP,mdP])
   |(apply qd;exact rvk;simp only[go_sem];apply qf)
   |with_reducible first|intro _|apply aiA
  all_goals try exact clz
  refine qp (T:=fun i:Nat=>qQ 38 [(0,.str s),(4,.int .i64 i)]) (H:=fun _=>h) (inv:=fun i=>i≤s.length∧ ∀j,j<i→spc (ch s j)=false) (m:=fun i=>s.length-i) 0 ⟨by omega,by omega⟩ (Wk.temps ?_) ?_
  ·(simp only[qQ,List.foldl,go_sem,qi,qe,qa,qh];try (repeat' first|(with_reducible apply aiA)|(apply qg;omega)|(apply qf;rfl)|exact qj))
  ·rintro i ⟨i1,i2⟩ K hK
   by_cases hi:i<s.length
   ·have hr:=qiw (ch s i);cases hb:spc (ch s i)with
    |true=>
     rw[qaS hi hb];unfold spc at hb;have hk:(4<zG (ch s i))=True:=eqt (by grind);simp (disch:=omega) only[qQ,List.foldl,jE,go_sem,qo,dvP,mdP]
     repeat' first
      |(refine qz (qdq _ _) ?_ ?_;exact flk;simp (disch:=omega) only[jE,hk,go_sem,qo,dvP,mdP])
      |(apply qd;exact rvk;simp only[go_sem];first|exact qj|apply qf)
      |with_reducible first|intro _|apply aiA
     all_goals try exact clz
    |false=>
     have hk:(4<zG (ch s i))=False:=eqf (by unfold spc at hb;grind);simp (disch:=omega) only[qQ,List.foldl,jE,go_sem,qo,dvP,mdP]
     repeat' first
      |(refine qz (qdq _ _) ?_ ?_;exact flk;simp (disch:=omega) only[jE,hk,go_sem,qo,dvP,mdP])
      |(apply qd;exact rvk;simp only[go_sem];apply qf)
      |with_reducible first|intro _|apply aiA
     all_goals try exact clz
     refine hK _ _ (i+1) ⟨by omega,fun j hj=> ?_⟩ (by omega) (Wk.temps ?_)
     ·by_cases e:j=i
      ·subst e;exact hb
      ·exact i2 j (by omega)
     ·(simp only[qQ,List.foldl,go_sem,qi,qe,qa,qh];try (repeat' first|(with_reducible apply aiA)|(apply qg;omega)|(apply qf;rfl)|exact qj))
   ·have e:i=s.length:=by omega
    subst e;rw[qaq i2];simp (disch:=omega) only[qQ,List.foldl,go_sem,qo,dvP,mdP]
    repeat' first
     |(apply qd;exact rvk;simp only[go_sem];exact qj)
     |with_reducible first|intro _|apply aiA
    all_goals try exact clz
 ·have e:(decide (0<s.length)&&decide (s.length≤64)&&decide (c=0)&&(decide (zG (ch s 0)=1)||decide (zG (ch s 0)=3)))=false:=by
   rw[Bool.eq_false_iff];intro h;simp only[Bool.and_eq_true,Bool.or_eq_true,decide_eq_true_eq]at h;exact g0 ⟨h.1.1.1,h.1.1.2,h.1.2,h.2⟩
  rw[e,Bool.false_and]
  by_cases g1:0<s.length
  ·by_cases g2:s.length≤64
   ·have k1:((s.length:Int)<1)=False:=eqf (by omega);have k2:(64<(s.length:Int))=False:=eqf (by omega)
    by_cases g3:c=0
    ·have g4: ¬zG (ch s 0)=1∧ ¬zG (ch s 0)=3:=by
      constructor
      ·intro h;exact g0 ⟨g1,g2,g3,.inl h⟩
      ·intro h;exact g0 ⟨g1,g2,g3,.inr h⟩
     have g5:=g4.1;have g6:=g4.2;refine qv qeY (by simp) ?_;simp only[List.length_cons,List.length_nil,Nat.reduceAdd,Nat.reduceSub,List.replicate,List.cons_append,List.nil_append,List.append_nil];simp (disch:=omega) only[qhX,k1,k2,go_sem,qo,dvP,mdP]
     repeat' first
      |(refine qz (qdq _ _) ?_ ?_;exact flk;simp (disch:=omega) only[k1,k2,g3,jE,g5,g6,go_sem,qo,dvP,mdP])
      |(refine qK (fun e=>⟨?_,h118 _⟩) ?_;exact flk;simp (disch:=omega) only[k1,k2,g3,jE,g5,g6,go_sem,qo,dvP,mdP])
      |(apply qd;exact rvk;simp only[go_sem];exact qj)
      |with_reducible apply aiA
     all_goals try exact clz
    ·refine qv qeY (by simp) ?_;simp only[List.length_cons,List.length_nil,Nat.reduceAdd,Nat.reduceSub,List.replicate,List.cons_append,List.nil_append,List.append_nil];simp (disch:=omega) only[qhX,k1,k2,go_sem,qo,dvP,mdP]
     repeat' first
      |(refine qK (fun e=>⟨?_,h118 _⟩) ?_;exact flk;simp (disch:=omega) only[k1,k2,g3,jE,go_sem,qo,dvP,mdP])
      |(apply qd;exact rvk;simp only[go_sem];exact qj)
   ·have k1:((s.length:Int)<1)=False:=eqf (by omega);have k2:(64<(s.length:Int))=True:=eqt (by omega);refine qv qeY (by simp) ?_;simp only[List.length_cons,List.length_nil,Nat.reduceAdd,Nat.reduceSub,List.replicate,List.cons_append,List.nil_append,List.append_nil];simp (disch:=omega) only[qhX,k1,k2,go_sem,qo,dvP,mdP]
    repeat' first
     |(refine qk ((.int .i64 0)) ?_;simp (disch:=omega) only[k1,k2,go_sem,qo,dvP,mdP])
     |(apply qd;exact rvk;simp only[go_sem];exact qj)
  ·have k1:((s.length:Int)<1)=True:=eqt (by omega);refine qv qeY (by simp) ?_;simp only[List.length_cons,List.length_nil,Nat.reduceAdd,Nat.reduceSub,List.replicate,List.cons_append,List.nil_append,List.append_nil];simp (disch:=omega) only[qhX,k1,go_sem,qo,dvP,mdP]
   repeat' first
    |(refine qk ((.int .i64 0)) ?_;simp (disch:=omega) only[k1,go_sem,qo,dvP,mdP])
    |(apply qd;exact rvk;simp only[go_sem];exact qj)
end HY
end
section
open Go Go.Proofs AF HY
namespace LN
def ld(c:UInt8):Bool:=decide (zG c=1)||decide (zG c=3)
theorem t66(s:List UInt8)(h:List AObj)(hs:s.length≤1000000000):ACalls Tryz.prog 242 [.str s] h (.int .i64 ((s.countP ld:Nat):Int)) h:=by
 refine qv qyw (by simp) ?_;simp only[List.length_cons,List.length_nil,Nat.reduceAdd,Nat.reduceSub,List.replicate,List.cons_append,List.nil_append,List.append_nil];simp (disch:=omega) only[qwX,go_sem];refine qp (T:=fun i:Nat=>qQ 25 [(0,.str s),(3,.int .i64 (((s.take i).countP ld:Nat):Int)),(7,.int .i64 s.length),(8,.int .i64 i)]) (H:=fun _=>h) (inv:=fun i=>i≤s.length) (m:=fun i=>s.length-i) 0 (by omega) (Wk.temps ?_) ?_
 ·(simp only[qQ,List.foldl,go_sem,qi,qe,qa,qh];try (repeat' first|(with_reducible apply aiA)|(apply qg;omega)|(apply qf;rfl)|exact qj))
 ·rintro i i1 K hK
  by_cases hi:i<s.length
  ·obtain⟨c,hc⟩: ∃c,c=s.getD i 0:=⟨_,rfl⟩
   have e1:(s[i]?).getD 0=c:=by rw[hc,gdqA]
   have e2:s.take (i+1)=s.take i++ [c]:=by rw[List.take_add_one,hc,gdqA,qY hi];rfl
   have hb:=c.toNat_lt;have c92:=fun h=>qC8 (c.toNat:Int) h (by omega) (by omega)
   have hn:(s.take i).countP ld≤s.length:=Nat.le_trans List.countP_le_length (by simp;omega);obtain⟨n,hN⟩: ∃n,n=(s.take i).countP ld:=⟨_,rfl⟩
   rw[←hN]at hn ⊢;obtain⟨k,hk⟩: ∃k,k=qfb (c.toNat:Int):=⟨_,rfl⟩
   have hk':k=zG c:=hk;rw[←hk]at c92;have e3:(s.take (i+1)).countP ld=n+if ld c=true then 1 else 0:=by
    rw[e2,List.countP_append,←hN];simp[List.countP_cons]
   by_cases g1:k=1
   ·have k1:(k=1)=True:=eqt g1;have g:ld c=true:=by unfold ld;rw[←hk',g1];rfl
    rw[ipo g]at e3;simp (disch:=omega) only[qQ,List.foldl,e1,go_sem]
    repeat' first
     |(refine qz (c92 _) ?_ ?_;exact flk;simp (disch:=omega) only[k1,go_sem,qo])
     |(apply qd;exact rvk;simp only[go_sem];apply qg)
     |with_reducible first|intro _|apply aiA
    all_goals try exact clz
    refine hK _ _ (i+1) (by omega) (by omega) (Wk.temps ?_);rw[e3]
    (simp only[qQ,List.foldl,go_sem,qi,qe,qa,qh];try (repeat' first|(with_reducible apply aiA)|(apply qg;omega)|(apply qf;rfl)|exact qj))
   ·have k1:(k=1)=False:=eqf g1
    by_cases g2:k=3
    ·have k2:(k=3)=True:=eqt g2;have g:ld c=true:=by unfold ld;rw[←hk',g2];rfl
     rw[ipo g]at e3;simp (disch:=omega) only[qQ,List.foldl,e1,go_sem]
     repeat' first
      |(refine qz (c92 _) ?_ ?_;exact flk;simp (disch:=omega) only[k1,k2,go_sem,qo])
      |(apply qd;exact rvk;simp only[go_sem];apply qg)
      |with_reducible first|intro _|apply aiA
     all_goals try exact clz
     refine hK _ _ (i+1) (by omega) (by omega) (Wk.temps ?_);rw[e3]
     (simp only[qQ,List.foldl,go_sem,qi,qe,qa,qh];try (repeat' first|(with_reducible apply aiA)|(apply qg;omega)|(apply qf;rfl)|exact qj))
    ·have k2:(k=3)=False:=eqf g2;have g: ¬ld c=true:=by unfold ld;rw[←hk',dqf g1,dqf g2];simp
     rw[ine g]at e3;simp (disch:=omega) only[qQ,List.foldl,e1,go_sem]
     repeat' first
      |(refine qz (c92 _) ?_ ?_;exact flk;simp (disch:=omega) only[k1,k2,go_sem,qo])
      |(apply qd;exact rvk;simp only[go_sem];apply qg)
      |with_reducible first|intro _|apply aiA
     all_goals try exact clz
     refine hK _ _ (i+1) (by omega) (by omega) (Wk.temps ?_);rw[e3,Nat.add_zero]
     (simp only[qQ,List.foldl,go_sem,qi,qe,qa,qh];try (repeat' first|(with_reducible apply aiA)|(apply qg;omega)|(apply qf;rfl)|exact qj))
  ·have e:i=s.length:=by omega
   subst e;rw[List.take_length];simp (disch:=omega) only[qQ,List.foldl,go_sem]
   repeat' first
    |(apply qd;exact rvk;simp only[go_sem];exact qj)
    |with_reducible first|intro _|apply aiA
   all_goals try exact clz
def jL(s:List UInt8):Bool:=decide (s≠ [])&&(decide (s.length≤16)&&decide (s.countP ld=s.length))
theorem t44(s:List UInt8)(h:List AObj)(hs:s.length≤1000000000):ACalls Tryz.prog 186 [.str s] h (.bool (jL s)) h:=by
 have c66:=fun h=>t66 s h hs
 unfold jL
 by_cases g1:s= []
 ·have k1:(s= [])=True:=eqt g1;rw[dqf (show¬s≠ []from fun hc=>hc g1)];refine qv qg9 (by simp) ?_;simp only[List.length_cons,List.length_nil,Nat.reduceAdd,Nat.reduceSub,List.replicate,List.cons_append,List.nil_append,List.append_nil];simp (disch:=omega) only[qkD,k1,go_sem]
  repeat' first
   |(refine qk ((.int .i64 0)) ?_;simp (disch:=omega) only[go_sem])
   |(apply qd;exact rvk;simp only[go_sem];exact qj)
   |with_reducible first|intro _|apply aiA
  all_goals try exact clz
 ·have k1:(s= [])=False:=eqf g1;rw[dqt (show s≠ []from g1)]
  by_cases g2:s.length≤16
  ·have k2:((s.length:Int)≤16)=True:=eqt (by omega);rw[dqt g2]
   by_cases g3:s.countP ld=s.length
   ·have k3:(((s.countP ld:Nat):Int)=s.length)=True:=eqt (by omega);rw[dqt g3];refine qv qg9 (by simp) ?_;simp only[List.length_cons,List.length_nil,Nat.reduceAdd,Nat.reduceSub,List.replicate,List.cons_append,List.nil_append,List.append_nil];simp (disch:=omega) only[qkD,k1,k2,go_sem]
    repeat' first
     |(refine qK (fun e=>⟨?_,c66 _⟩) ?_;exact flk;simp (disch:=omega) only[k3,go_sem])
     |(apply qd;exact rvk;simp only[go_sem];exact qj)
   ·have k3:(((s.countP ld:Nat):Int)=s.length)=False:=eqf (by omega);rw[dqf g3];refine qv qg9 (by simp) ?_;simp only[List.length_cons,List.length_nil,Nat.reduceAdd,Nat.reduceSub,List.replicate,List.cons_append,List.nil_append,List.append_nil];simp (disch:=omega) only[qkD,k1,k2,go_sem]
    repeat' first
     |(refine qK (fun e=>⟨?_,c66 _⟩) ?_;exact flk;simp (disch:=omega) only[k3,go_sem])
     |(apply qd;exact rvk;simp only[go_sem];exact qj)
  ·have k2:((s.length:Int)≤16)=False:=eqf (by omega);rw[dqf g2];refine qv qg9 (by simp) ?_;simp only[List.length_cons,List.length_nil,Nat.reduceAdd,Nat.reduceSub,List.replicate,List.cons_append,List.nil_append,List.append_nil];simp (disch:=omega) only[qkD,k1,k2,go_sem]
   repeat' first
    |(refine qk ((.int .i64 0)) ?_;simp (disch:=omega) only[go_sem])
    |(apply qd;exact rvk;simp only[go_sem];exact qj)
theorem t77(s:List UInt8)(h:List AObj)(hs:s.length≤1000000000):ACalls Tryz.prog 217 [.str s] h (.int .i64 ((s.countP ld:Nat):Int)) h:=by
 refine qv qys (by simp) ?_;simp only[List.length_cons,List.length_nil,Nat.reduceAdd,Nat.reduceSub,List.replicate,List.cons_append,List.nil_append,List.append_nil];simp (disch:=omega) only[qwT,go_sem];refine qp (T:=fun i:Nat=>qQ 25 [(0,.str s),(3,.int .i64 (((s.take i).countP ld:Nat):Int)),(4,.int .i64 i)]) (H:=fun _=>h) (inv:=fun i=>i≤s.length) (m:=fun i=>s.length-i) 0 (by omega) (Wk.temps ?_) ?_
 ·(simp only[qQ,List.foldl,go_sem,qi,qe,qa,qh];try (repeat' first|(with_reducible apply aiA)|(apply qg;omega)|(apply qf;rfl)|exact qj))
 ·rintro i i1 K hK
  by_cases hi:i<s.length
  ·obtain⟨c,hc⟩: ∃c,c=s.getD i 0:=⟨_,rfl⟩
   have e1:(s[i]?).getD 0=c:=by rw[hc,gdqA]
   have e2:s.take (i+1)=s.take i++ [c]:=by rw[List.take_add_one,hc,gdqA,qY hi];rfl
   have c55:=fun h=>qDa (c.toNat:Int) h
   have hn:(s.take i).countP ld≤s.length:=Nat.le_trans List.countP_le_length (by simp;omega);obtain⟨n,hN⟩: ∃n,n=(s.take i).countP ld:=⟨_,rfl⟩
   rw[←hN]at hn ⊢;obtain⟨k,hk⟩: ∃k,k=qfb (c.toNat:Int):=⟨_,rfl⟩
   have hk':k=zG c:=hk;rw[←hk]at c55;have e3:(s.take (i+1)).countP ld=n+if ld c=true then 1 else 0:=by
    rw[e2,List.countP_append,←hN];simp[List.countP_cons]
   have q0:((i:Int)<s.length)=True:=eqt (by omega)
   by_cases g1:k=1
   ·have k1:(k=1)=True:=eqt g1;have g:ld c=true:=by unfold ld;rw[←hk',g1];rfl
    rw[ipo g]at e3;simp (disch:=omega) only[qQ,List.foldl,e1,q0,go_sem]
    repeat' first
     |(refine qz (c55 _) ?_ ?_;exact flk;simp (disch:=omega) only[k1,go_sem,qo])
     |with_reducible apply aiA
    all_goals try exact clz
    refine hK _ _ (i+1) (by omega) (by omega) (Wk.temps ?_);rw[e3]
    (simp only[qQ,List.foldl,go_sem,qi,qe,qa,qh];try (repeat' first|(with_reducible apply aiA)|(apply qg;omega)|(apply qf;rfl)|exact qj))
   ·have k1:(k=1)=False:=eqf g1
    by_cases g2:k=3
    ·have k2:(k=3)=True:=eqt g2;have g:ld c=true:=by unfold ld;rw[←hk',g2];rfl
     rw[ipo g]at e3;simp (disch:=omega) only[qQ,List.foldl,e1,q0,go_sem]
     repeat' first
      |(refine qz (c55 _) ?_ ?_;exact flk;simp (disch:=omega) only[k1,k2,go_sem,qo])
      |with_reducible apply aiA
     all_goals try exact clz
     refine hK _ _ (i+1) (by omega) (by omega) (Wk.temps ?_);rw[e3]
     (simp only[qQ,List.foldl,go_sem,qi,qe,qa,qh];try (repeat' first|(with_reducible apply aiA)|(apply qg;omega)|(apply qf;rfl)|exact qj))
    ·have k2:(k=3)=False:=eqf g2;have g:ld c=false:=by unfold ld;rw[←hk',dqf g1,dqf g2];rfl
     rw[ine (by rw[g];simp)]at e3;simp (disch:=omega) only[qQ,List.foldl,e1,q0,go_sem]
     repeat' first
      |(refine qz (c55 _) ?_ ?_;exact flk;simp (disch:=omega) only[k1,k2,go_sem,qo])
      |with_reducible apply aiA
     all_goals try exact clz
     refine hK _ _ (i+1) (by omega) (by omega) (Wk.temps ?_);rw[e3]
     (simp only[qQ,List.foldl,go_sem,qi,qe,qa,qh];try (repeat' first|(with_reducible apply aiA)|(apply qg;omega)|(apply qf;rfl)|exact qj))
  ·have e:i=s.length:=by omega
   subst e;rw[List.take_length];have q0:((s.length:Int)<s.length)=False:=eqf (by omega);simp (disch:=omega) only[qQ,List.foldl,q0,go_sem]
   repeat' first
    |(apply qd;exact rvk;simp only[go_sem];exact qj)
theorem ql7{s:List UInt8}(h1:s≠ [])(h2:s.length≤16)(h3:s.countP ld=s.length):qak s=true:=by
 have hall: ∀c∈s,ld c=true:=List.countP_eq_length.1 h3;have hch: ∀i,i<s.length→zG (ch s i)=1∨zG (ch s i)=3:=by
  intro i hi;have hm:ch s i∈s:=by
   have e:ch s i=s[i]:=by simp[ch,hi]
   rw[e];exact List.getElem_mem hi
  have:=hall _ hm
  unfold ld at this;simpa using this
 have hp:0<s.length:=List.length_pos_iff.2 h1;have hc:qaU s=0:=by
  rw[qeO,ine (by omega),ine];rw[List.any_eq_true];rintro⟨i,hi,hb⟩
  have:=hch i (List.mem_range.1 hi)
  unfold qaW at hb;rcases this with h|h<;>rw[h]at hb<;>simp at hb
 rw[qcZ,dqt hp,dqt (show s.length≤64 by omega),dqt hc];have h0:=hch 0 hp;have e0:(decide (zG (ch s 0)=1)||decide (zG (ch s 0)=3))=true:=by simpa using h0
 rw[e0];have ea:((List.range s.length).any fun i=>spc (ch s i))=false:=by
  rw[List.any_eq_false];intro i hi
  have:=hch i (List.mem_range.1 hi)
  unfold spc;rcases this with h|h<;>rw[h]<;>decide
 rw[ea];rfl
theorem t53(s:List UInt8)(h:List AObj)(hs:s.length≤1000000000):ACalls Tryz.prog 166 [.str s] h (.bool (jL s)) h:=by
 have c76:=fun h=>t93 s h hs
 have c77:=fun h=>t77 s h hs
 unfold jL
 by_cases g2:s.length≤16
 ·have k2:((s.length:Int)≤16)=True:=eqt (by omega);rw[dqt g2,Bool.true_and]
  by_cases g3:s.countP ld=s.length
  ·have k3:((s.countP ld:Int)=s.length)=True:=eqt (by omega);rw[dqt g3,Bool.and_true]
   by_cases g1:s= []
   ·rw[dqf (fun hc=>hc g1)];have hw:qak s=false:=by subst g1;rw[qcZ];rfl
    rw[hw]at c76;refine qv qeW (by simp) ?_;simp only[List.length_cons,List.length_nil,Nat.reduceAdd,Nat.reduceSub,List.replicate,List.cons_append,List.nil_append,List.append_nil];simp (disch:=omega) only[qhV,k2,go_sem]
    repeat' first
     |(refine qk ((.int .i64 0)) ?_;simp (disch:=omega) only[go_sem])
     |(refine qK (fun e=>⟨?_,c76 _⟩) ?_;exact flk;simp (disch:=omega) only[go_sem])
     |(apply qd;exact rvk;simp only[go_sem];exact qj)
   ·rw[dqt g1];rw[ql7 g1 g2 g3]at c76;refine qv qeW (by simp) ?_;simp only[List.length_cons,List.length_nil,Nat.reduceAdd,Nat.reduceSub,List.replicate,List.cons_append,List.nil_append,List.append_nil];simp (disch:=omega) only[qhV,k2,go_sem]
    repeat' first
     |((first|refine qK (fun e=>⟨?_,c76 _⟩) ?_|refine qK (fun e=>⟨?_,c77 _⟩) ?_);exact flk;simp (disch:=omega) only[k3,go_sem])
     |(apply qd;exact rvk;simp only[go_sem];exact qj)
  ·have k3:((s.countP ld:Int)=s.length)=False:=eqf (by omega);rw[dqf g3,Bool.and_false];cases hw:qak s with
   |false=>
    rw[hw]at c76;refine qv qeW (by simp) ?_;simp only[List.length_cons,List.length_nil,Nat.reduceAdd,Nat.reduceSub,List.replicate,List.cons_append,List.nil_append,List.append_nil];simp (disch:=omega) only[qhV,k2,go_sem]
    repeat' first
     |(refine qk ((.int .i64 0)) ?_;simp (disch:=omega) only[go_sem])
     |(refine qK (fun e=>⟨?_,c76 _⟩) ?_;exact flk;simp (disch:=omega) only[go_sem])
     |(apply qd;exact rvk;simp only[go_sem];exact qj)
   |true=>
    rw[hw]at c76;refine qv qeW (by simp) ?_;simp only[List.length_cons,List.length_nil,Nat.reduceAdd,Nat.reduceSub,List.replicate,List.cons_append,List.nil_append,List.append_nil];simp (disch:=omega) only[qhV,k2,go_sem]
    repeat' first
     |((first|refine qK (fun e=>⟨?_,c76 _⟩) ?_|refine qK (fun e=>⟨?_,c77 _⟩) ?_);exact flk;simp (disch:=omega) only[k3,go_sem])
     |(apply qd;exact rvk;simp only[go_sem];exact qj)
 ·have k2:((s.length:Int)≤16)=False:=eqf (by omega);rw[dqf g2,Bool.false_and,Bool.and_false];refine qv qeW (by simp) ?_;simp only[List.length_cons,List.length_nil,Nat.reduceAdd,Nat.reduceSub,List.replicate,List.cons_append,List.nil_append,List.append_nil];simp (disch:=omega) only[qhV,k2,go_sem]
  repeat' first
   |(refine qk ((.bool false)) ?_;simp (disch:=omega) only[go_sem])
   |(apply qd;exact rvk;simp only[go_sem];exact qj)
end LN
end
section
open Go Go.Proofs AF HY
namespace HY
theorem qC9(s:List UInt8)(f a:Nat)(h:List AObj)(hf:f<s.length):ACalls Tryz.prog 316 [.str s,.int .i64 f,.int .i64 a] h (.bool (decide (zG (ch s f)=1)&&decide (f<a))) h:=by
 refine qv qyY (by simp) ?_;simp only[List.length_cons,List.length_nil,Nat.reduceAdd,Nat.reduceSub,List.replicate,List.cons_append,List.nil_append,List.append_nil];simp (disch:=omega) only[qxl,jE,go_sem]
 repeat' first
  |(refine qz (qdp _ _) ?_ ?_;exact flk;simp (disch:=omega) only[go_sem])
  |(apply qd;exact rvk;simp only[go_sem];apply qf)
  |with_reducible apply aiA
 all_goals first
  |omega
  |(congr 1;exact decide_eq_decide.2 (by omega))
  |skip
theorem qBQ(s:List UInt8)(hs:s.length≤1000000000):qv1 Tryz.prog 315 [.ip [.str s]] ((zi s).map fun x=> [.int .i64 (x.1:Int),.str x.2]):=by
 intro h ts L S E hS hE body start hts;refine qbE qyX (by simp) ?_;simp only[List.length_cons,List.length_nil,Nat.reduceAdd,Nat.reduceSub,List.replicate,List.cons_append,List.nil_append,List.append_nil];simp (disch:=omega) only[qxk,go_sem]
 all_goals first
  |omega
  |skip
 refine qp (T:=fun i:Nat×Nat×Nat×List AObj=>qQ 37 [(0,.yld h.length),(1,.ip [.str s]),(3,.int .i64 i.1),(4,.int .i64 i.2.1)]) (H:=fun i=>i.2.2.2++ [.lp .ready ts L])
  (inv:=fun i=>S i.2.2.1 i.2.2.2∧((i.2.1≤s.length∧i.1<i.2.1∧(zi s).drop i.2.2.1=qac i.1 ((s.drop i.1).take (i.2.1-i.1)) (s.drop i.2.1))∨(s.length<i.2.1∧i.2.1≤s.length+1∧i.2.2.1=(zi s).length))) (m:=fun i=>s.length+1-i.2.1) (0,1,0,h) ⟨start,?_⟩ (Wk.temps ?_) ?_
 ·simp only;cases s with
  |nil=>right;simp[zi]
  |cons c r=>left;simp[zi]
 ·(simp only[qQ,List.foldl,go_sem,qi,qe,qh];try (repeat' first|(with_reducible apply aiA)|(apply qg;omega)|(apply qf;rfl)|exact qj))
 ·rintro⟨f,i,j,hh⟩ ⟨i1,i2⟩ K hK;simp only at i1 i2 hK;obtain⟨hlen,hlow⟩:=hS _ _ i1;rcases i2 with⟨g1,g2,g3⟩|⟨g1,g2,rfl⟩
  ·have hjl:j<(zi s).length:=by
    have:(zi s).drop j≠ []:=by rw[g3];exact qoU _ _ _
    by_cases hj:j<(zi s).length
    ·exact hj
    ·exact absurd (List.drop_of_length_le (by omega)) this
   by_cases hk:i<s.length∧zG (ch s i)=2∧zG (ch s f)=1
   ·have hst:=qcN g2 hk.1;rw[ipo hk.2]at hst;simp (disch:=omega) only[qQ,List.foldl,jE,go_sem]
    repeat' first
     |((first|refine qK (fun e=>⟨?_,qdp _ _⟩) ?_|refine qK (fun e=>⟨?_,qC9 s f i _ (by omega)⟩) ?_);exact flk;simp (disch:=omega) only[hk.2.1,hk.2.2,go_sem,qo])
     |with_reducible first|intro _|apply aiA
    all_goals first
     |omega
     |skip
    refine hK _ _ (f,i+1,j,hh) ⟨i1,.inl ⟨by simp only;omega,by simp only;omega,by rw[g3,hst]⟩⟩ (by simp only;omega) (Wk.temps ?_)
    (simp only[qQ,List.foldl,go_sem,qi,qe,qa,qh];try (repeat' first|(with_reducible apply aiA)|(apply qg;omega)|(apply qf;rfl)|exact qj))
   ·obtain⟨rest,hrest,hr1⟩: ∃rest,(zi s).drop j=(f,(s.drop f).take (i-f))::rest∧(if i<s.length then rest=qac i ((s.drop i).take (i+1-i)) (s.drop (i+1)) else rest= []):=by
     by_cases hi:i<s.length
     ·have hst:=qcN g2 hi;rw[ine (fun h=>hk ⟨hi,h⟩)]at hst;exact⟨_,g3.trans hst,by rw[ipo hi]⟩
     ·refine⟨[],?_,by rw[ine hi]⟩;rw[g3,show s.drop i= []from List.drop_of_length_le (by omega)];rfl
    rw[List.drop_eq_getElem_cons hjl]at hrest;obtain⟨hget,hdrop⟩:=List.cons.inj hrest;have hb:=body j hh [] (by simpa using hjl) i1;rw[List.getElem_map,hget]at hb;simp only at hb;have hfit:(i:Int)-f=((i-f:Nat):Int):=by omega
    simp (disch:=omega) only[qQ,List.foldl,jE,go_sem]
    repeat' first
     |((first|refine qK (fun e=>⟨?_,qdp _ _⟩) ?_|refine qK (fun e=>⟨?_,qC9 s f i _ (by omega)⟩) ?_);exact flk;simp (disch:=omega) only[go_sem,qo])
     |with_reducible first|intro _|apply aiA
    all_goals first
     |omega
     |exact⟨.ready,ts,L,kS hlen⟩
     |skip
    refine kM.mono ?_ hb;rintro v h' ⟨hh',⟨rfl,hn,rfl⟩|⟨st,rfl,hs',rfl⟩⟩
    ·simp (disch:=omega) only[go_sem,qo]
     all_goals first
      |omega
      |(rename_i hx;revert hx;simp;done)
      |skip
     by_cases hi:i<s.length
     ·rw[ipo hi]at hr1;refine hK _ _ (i,i+1,j+1,hh') ⟨hn,.inl ⟨by simp only;omega,by simp only;omega,by simp only;rw[hdrop,hr1]⟩⟩ (by simp only;omega) (Wk.temps ?_)
      (simp only[qQ,List.foldl,go_sem,qi,qe,qa,qh];try (repeat' first|(with_reducible apply aiA)|(apply qg;omega)|(apply qf;rfl)|exact qj))
     ·rw[ine hi]at hr1;refine hK _ _ (i,i+1,j+1,hh') ⟨hn,.inr ⟨by simp only;omega,by simp only;omega,?_⟩⟩ (by simp only;omega) (Wk.temps ?_)
      ·have:((zi s).drop (j+1)).length=0:=by rw[hdrop,hr1];rfl
       rw[List.length_drop]at this;simp only;omega
      ·(simp only[qQ,List.foldl,go_sem,qi,qe,qa,qh];try (repeat' first|(with_reducible apply aiA)|(apply qg;omega)|(apply qf;rfl)|exact qj))
    ·simp (disch:=omega) only[go_sem,qo];obtain⟨r1,r2⟩:=(hE _ _ hs').ret (L:=L) st hts;exact qhe trivial r1 r2 ⟨_,.inr ⟨st,hs',rfl⟩⟩ (qj)
  ·simp (disch:=omega) only[qQ,List.foldl,go_sem]
   repeat' first
    |with_reducible first|intro _|apply aiA
   all_goals first
    |omega
    |skip
   obtain⟨r1,r2⟩:=(hS _ _ i1).ret (L:=L) .ready hts;exact kR trivial r1 r2 ⟨hh,.inl ⟨by simpa using i1,rfl⟩⟩ (qj)
def qk1(s:List UInt8):AV:= .fn (.func 315) [] [.ip [.str s]]
def qeP(s:List UInt8):List (List AV):=(zi s).map fun x=> [.int .i64 (x.1:Int),.str x.2]
theorem qeQ(s:List UInt8):(qeP s).length=(qfH s).length:=by simp[qeP,qfH]
theorem qk4(s:List UInt8){i:Nat}(hi:i<(qeP s).length): ∃n:Nat,(qeP s)[i]= [.int .i64 (n:Int),.str ((qfH s).getD i [])]:=by
 have h1:i<(zi s).length:=by simpa[qeP] using hi
 refine⟨((zi s)[i]).1,?_⟩;simp[qeP,qfH,gdqA,h1]
theorem t91(s:List UInt8)(h:List AObj):ACalls Tryz.prog 307 [.str s] h (qk1 s) h:=by
 refine qv qyV (by simp) ?_;simp only[List.length_cons,List.length_nil,Nat.reduceAdd,Nat.reduceSub,List.replicate,List.cons_append,List.nil_append];simp (disch:=omega) only[qxi,go_sem]
 repeat' first
  |(apply qb;exact rvk;simp only[go_sem];exact qj)
theorem qik(s:List UInt8):(qk1 s).flag=true:=rfl
theorem qgv(s:List UInt8):(qk1 s).strip=qk1 s:=rfl
attribute [go_sem] qik qgv
theorem _root_.AF.LowI.app{h a b:List AObj}(e:b.length=a.length)(hb: ∀o∈b,o∈a∨(qan (h.length+a.length) o∧qan (h.length+a.length+1) o)):LowI (h++a) (h++b):=by
 refine⟨by simp[e],fun o ho=> ?_⟩;rw[List.length_append];rcases List.mem_append.1 ho with ho|ho
 ·exact .inl (List.mem_append_left _ ho)
 ·rcases hb o ho with h1|h1
  ·exact .inl (List.mem_append_right _ h1)
  ·exact .inr h1
theorem qnD(l:List (List UInt8)){i:Nat}(h:i<l.length):l.take (i+1)=l.take i++ [l.getD i []]:=by
 rw[List.take_add_one,qY h];simp[gdqA,h]
theorem qdW{l:List (List UInt8)}{p:List UInt8→Bool}{i:Nat}(h:i<l.length):(l.take (i+1)).any p=((l.take i).any p||p (l.getD i [])):=by
 rw[qnD l h,List.any_append];simp
theorem qwn{l:List (List UInt8)}{p:List UInt8→Bool}{i:Nat}(h:i<l.length)(hp:p (l.getD i [])=true):l.any p=true:=by
 rw[List.any_eq_true];refine⟨l.getD i [],?_,hp⟩;rw[gdqA,qY h];exact List.getElem_mem h
theorem qtg{s:List UInt8}{i:Nat}(h:i<(qfH s).length):0<((qfH s).getD i []).length:=by
 apply List.length_pos_iff.2;apply qth (s:=s);rw[gdqA,qY h];exact List.getElem_mem h
set_option maxHeartbeats 4000000 in
theorem qEc(s:List UInt8)(h:List AObj)(hs:s.length≤1000000000):ACalls Tryz.prog 288 [.str s] h (.int .i64 (qaU s)) h:=by
 have hit:=qBQ s hs;unfold qaU
 by_cases hl:65536<s.length
 ·have hl':(65536<(s.length:Int))=True:=eqt (by omega);rw[ipo hl];refine qv qrK (by simp) ?_;simp only[List.length_cons,List.length_nil,Nat.reduceAdd,Nat.reduceSub,List.replicate,List.cons_append,List.nil_append];simp (disch:=omega) only[qsS,hl',go_sem]
  repeat' first
   |(apply qb;exact rvk;simp only[go_sem];exact qj)
  all_goals trace_state
 ·have hl':(65536<(s.length:Int))=False:=eqf (by omega);rw[ine hl];refine qv qrK (by simp) ?_;simp only[List.length_cons,List.length_nil,Nat.reduceAdd,Nat.reduceSub,List.replicate,List.cons_append,List.nil_append];simp (disch:=omega) only[qsS,hl',go_sem]
  repeat' first
   |(refine qz (t91 s _) ?_ ?_;exact flk;simp (disch:=omega) only[go_sem])
  refine qiI (xs:=qeP s) hit (by intro a ha;simp[qeP]at ha;obtain⟨_,_,_,rfl⟩:=ha;rfl)
   (S:=fun i hh=>hh=h++ [.mem 1 35 [.int .i64 0]]∧((qfH s).take i).any zB=false)
   (E:=fun e hh=>e= .ret∧hh=h++ [.mem 1 35 [.int .i64 11]]∧(qfH s).any zB=true) ?_ ?_ ?_ ?_ ?_ ?_ ?_
  ·rintro i hh ⟨rfl,_⟩;exact LowI.refl _
  ·rintro e hh ⟨_,rfl,_⟩;refine LowI.app rfl (fun o ho=> ?_);simp only[List.mem_cons,List.not_mem_nil,or_false]at ho;subst ho;right;constructor<;>(intro c hc;simp at hc;subst hc;rfl)
  ·exact⟨rfl,by simp⟩
  ·simp[jb,jb.lowVs,qk1]
   try omega
  ·rintro i hh tl L hi ⟨rfl,hno⟩ hlen;obtain⟨n,hx⟩:=qk4 s hi;rw[qeQ]at hi;rw[hx];have hnx:=qdW (p:=zB) hi;rw[hno,Bool.false_or]at hnx;have hat:=qwn (p:=zB) hi;obtain⟨c,hc⟩: ∃c,c=(qfH s).getD i []:=⟨_,rfl⟩
   have hcl:=qtg hi;rw[←hc]at hcl hnx hat ⊢;simp only[qco];simp (disch:=omega) only[List.append_assoc,eq_self,jE,go_sem]
   repeat' first
    |(refine qz (qdp _ _) ?_ ?_;exact flk;simp (disch:=omega) only[eq_self,go_sem])
    |with_reducible first|intro _|apply aiA
   all_goals try exact clz
   ·rename_i hx;exact⟨h++ [.mem 1 35 [.int .i64 11]],by simp,by simp,by simp,hat (by unfold zB;simpa using hx)⟩
   ·rename_i hx;exact⟨h++ [.mem 1 35 [.int .i64 0]],by simp,by simp,by simp,by rw[hnx];unfold zB;simpa using hx⟩
  ·rintro hh ⟨rfl,hno⟩;rw[qeQ,List.take_length]at hno;rw[hno];simp (disch:=omega) only[go_sem]
   repeat' first
    |(apply qb;exact rvk;simp only[go_sem];exact qj)
   all_goals trace_state
  ·rintro e hh ⟨rfl,rfl,hb⟩;rw[hb];show Ex.inBlock 0 _ .ret _ _;simp (disch:=omega) only[go_sem]
   repeat' first
    |(apply qb;exact rvk;simp only[go_sem];exact qj)
   all_goals trace_state
end HY
end
