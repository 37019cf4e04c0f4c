import Derived.KernelRfl
import Derived.Test.YthjkfdakolejgaaGreatDoorK7
import Derived.Test.YthjkfdakolejgaaGreatDoorK5
import Derived.Test.YthjkfdakolejgaaGreatDoorK3
import Derived.Test.YthjkfdakolejgaaGreatDoorProg
import Derived.Test.YthjkfdakolejgaaGreatDoorK4
set_option linter.all false
set_option linter.unusedSimpArgs false
set_option linter.unusedVariables false
set_option linter.unusedSectionVars false
set_option maxRecDepth 100000
section
namespace AF
open Go
theorem fi{P:Program}{f:Nat}(fn:Func)(js:List Tmp)(imp:List FuncId)(wks:List Nat){nt ns:Nat}{rs:List RV}{c:C}(h1:P.funcs[f]? =some fn:=by kernel_rfl)
  (h2 : (fn.body.isSome && (fn.name != "runtime.NumGoroutine")) = true := by kernel_rfl) (h3 : (fn.ntmps, js.length) = (nt, ns) := by kernel_rfl) (h4 : (qiB P fn.results.toList, cv P js imp wks (fn.body.getD .skip)) = (some rs, some c) := by kernel_rfl) : qM P f nt ns rs c := by
 cases hb:fn.body with
 |none=>rw[hb]at h2;cases h2
 |some body=>
  rw[hb]at h2 h4;cases h3;simp only[Prod.mk.injEq]at h4;exact⟨fn,body,js,imp,wks,h1,hb,by simpa using h2,rfl,rfl,h4.1,h4.2⟩
def qcM(p:Nat→Bool):Nat→Nat→Int
 |0,_=> -1
 |k+1,i=>if p i=true then i else qcM p k (i+1)
theorem qfw{p:Nat→Bool}{n i:Nat}(hi:i≤n)(h: ∀j,j<i→p j=false):qcM p n 0=qcM p (n-i) i:=by
 induction i with
 |zero=>rfl
 |succ i ih=>
  rw[ih om (fun j hj=>h j om),show n-i=(n-(i+1))+1 by omega];simp only[qcM,h i om,Bool.false_eq_true,if_false]
theorem qcN{p:Nat→Bool}{n i:Nat}(hi:i<n)(h: ∀j,j<i→p j=false)(hp:p i=true):qcM p n 0=i:=by
 rw[qfw om h,show n-i=(n-i-1)+1 by omega];unfold qcM;rw[hp];rfl
theorem qc9{p:Nat→Bool}{n:Nat}(h: ∀j,j<n→p j=false):qcM p n 0= -1:=by
 rw[qfw (nlr n) h,Nat.sub_self];rfl
theorem jb(p:Nat→Bool)(n:Nat):(∃i,i<n∧p i=true∧(∀j,j<i→p j=false)∧qcM p n 0=i)∨((∀j,j<n→p j=false)∧qcM p n 0= -1):=by
 induction n with
 |zero=>exact .inr ⟨fun j hj=>by omega,rfl⟩
 |succ n ih=>
  by_cases h: ∃i,i<n+1∧p i=true
  ·rcases ih with⟨i,h1,h2,h3,h4⟩|⟨h1,h2⟩
   ·exact .inl ⟨i,om,h2,h3,qcN om h3 h2⟩
   ·obtain⟨i,h3,h4⟩:=h;have e:i=n:=by
     by_cases e:i<n
     ·rw[h1 i e]at h4;cases h4
     ·omega
    subst e;exact .inl ⟨i,h3,h4,h1,qcN h3 h1 h4⟩
  ·refine .inr ?_;have h': ∀j,j<n+1→p j=false:=fun j hj=>by
    cases e:p j with
    |false=>rfl
    |true=>exact absurd ⟨j,hj,e⟩ h
   exact⟨h',qc9 h'⟩
def ju(p:Nat→Bool)(n:Nat):Bool:=decide (0≤qcM p n 0)
theorem qR{p:Nat→Bool}{n:Nat}:ju p n=true↔ ∃i,i<n∧p i=true:=by
 unfold ju;rw[decide_eq_true_iff];rcases jb p n with⟨i,h1,h2,_,h4⟩|⟨h1,h2⟩
 ·rw[h4];exact⟨fun _=>⟨i,h1,h2⟩,fun _=>by omega⟩
 ·rw[h2];exact⟨fun h=>by omega,fun ⟨i,h3,h4⟩=>by rw[h1 i h3]at h4;cases h4⟩
theorem qt{p:Nat→Bool}{n:Nat}:ju p n=false↔ ∀i,i<n→p i=false:=by
 constructor
 ·intro h i hi;cases e:p i with
  |false=>rfl
  |true=>rw[qR.2 ⟨i,hi,e⟩]at h;cases h
 ·intro h;cases e:ju p n with
  |false=>rfl
  |true=>
   obtain⟨i,h1,h2⟩:=qR.1 e;rw[h i h1]at h2;cases h2
def cIX:C:=
 ((C.ops [MC 4 (i6 0)]).seq (((C.ops [MV 6 0,O1 7 .len 6,MC 8 (i6 0)]).seq (C.block 0 ((C.ops [BI 9 .lss 8 7]).seq ((C.cond (.t 9) C.skip (C.exit 0)).seq ((C.block 1 ((C.ops [MV 10 8,MV 5 10]).seq ((C.ops [MV 11 1,MV 12 0,MV 13 5,O2 14 (.idxA 1) 12 13,LD 15 14,BI 16 .eql 11 15]).seq (C.cond (.t 16) ((C.ops [MV 17 5,MV 4 17]).seq C.ret) C.skip)))).seq (C.ops [BC 18 .add 8 (i6 1),MV 8 18])))).loop)).seq ((C.ops [MC 4 (i6 (-1))]).seq C.ret)))
def cIF(z:Nat)(m:Option Nat):C:=
 ((C.ops [MC 4 (i6 0)]).seq (((C.ops [MV 6 0,O1 7 .len 6,MC 8 (i6 0)]).seq (C.block 0 ((C.ops [BI 9 .lss 8 7]).seq ((C.cond (.t 9) C.skip (C.exit 0)).seq ((C.block 1 ((C.ops [MV 10 8,MV 5 10]).seq ((C.ops [MV 11 1,MV 12 0,MV 13 5,O2 14 (.idxA z) 12 13,O1 15 (.load m) 14,O2 16 .callv 11 15]).seq (C.cond (.t 16) ((C.ops [MV 17 5,MV 4 17]).seq C.ret) C.skip)))).seq (C.ops [BC 18 .add 8 (i6 1),MV 8 18])))).loop)).seq ((C.ops [MC 4 (i6 (-1))]).seq C.ret)))
def cCT(g:Nat):C:=((C.ops [MC 4 (.bool false)]).seq ((C.ops [MV 5 0,MV 6 1,O2 7 (.call g true) 5 6,BC 8 .geq 7 (i6 0),MV 4 8]).seq C.ret))
def cEQ:C:=
 ((C.ops [MC 4 (.bool false)]).seq (((C.ops [MV 6 0,O1 7 .len 6,MV 8 1,O1 9 .len 8,BI 10 .neq 7 9]).seq (C.cond (.t 10) ((C.ops [MC 4 (.bool false)]).seq C.ret) C.skip)).seq (((C.ops [MV 11 0,O1 12 .len 11,MC 13 (i6 0)]).seq (C.block 0 ((C.ops [BI 14 .lss 13 12]).seq ((C.cond (.t 14) C.skip (C.exit 0)).seq ((C.block 1 ((C.ops [MV 15 13,MV 5 15]).seq ((C.ops [MV 16 0,MV 17 5,O2 18 (.idxA 1) 16 17,LD 19 18,MV 20 1,MV 21 5,O2 22 (.idxA 1) 20 21,LD 23 22,BI 24 .neq 19 23]).seq (C.cond (.t 24) ((C.ops [MC 4 (.bool false)]).seq C.ret) C.skip)))).seq (C.ops [BC 25 .add 13 (i6 1),MV 13 25])))).loop)).seq ((C.ops [MC 4 (.bool true)]).seq C.ret))))
inductive At where
 |s (x:List UInt8)
 |i (n:Int)
 deriving DecidableEq
def At.v:At→AV
 | .s x=> .str x
 | .i n=> .int .i64 n
def At.k:At→Bool
 | .s _=>true
 | .i _=>false
theorem At.strip(a:At):a.v.strip=a.v:=by cases a<;>rfl
theorem At.flag(a:At):a.v.flag=true:=by cases a<;>rfl
theorem At.solid(a:At):a.v.solid=true:=by cases a<;>rfl
theorem At.eql{a b:At}(h:a.k=b.k):qaD .eql a.v b.v=True∧qaz .eql a.v b.v= .bool (decide (a=b)):=by
 cases a<;>cases b<;>simp_all [At.v,At.k,qaD,qaz]
theorem At.neq{a b:At}(h:a.k=b.k):qaD .neq a.v b.v=True∧qaz .neq a.v b.v= .bool (!decide (a=b)):=by
 cases a<;>cases b<;>simp_all [At.v,At.k,qaD,qaz]
set_option maxHeartbeats 1000000
theorem qDh{P:Program}{f:Nat}(hf:qM P f 19 0 [RV.tmp 4] cIX)(n:Nat)(g:Nat→At)(x:At)(h:List AObj)(hk: ∀i,i<n→x.k=(g i).k)(hn:n≤9223372036854775807):
  ACalls P f [.sl n (fun i=> [(g i).v]),x.v] h (.int .i64 (qcM (fun i=>decide (x=g i)) n 0)) h:=by
 have s1:=x.strip;have s2:=x.flag;refine acO hf ?_;simp (disch:=omega) only[cIX,go_sem];refine qu (T:=fun i:Nat=>ze 19 [(0,.sl n (fun i=> [(g i).v])),(1,x.v),(6,.sl n (fun i=> [(g i).v])),(7,.int .i64 n),(8,.int .i64 i)]) (H:=fun _=>h) (inv:=fun i=>i≤n∧ ∀j,j<i→decide (x=g j)=false) (m:=fun i=>n-i) 0 ⟨nzl _,fun j hj=>by omega⟩ (Wk.temps ?_) ?_
 ·exact tmq
 rintro i ⟨i1,i2⟩ K hK
 by_cases hi:i<n
 ·have k1:((i:Int)<n)=True:=eqt om;obtain⟨e1,e2⟩:=At.eql (hk i hi);have f1:=(g i).strip;have f2:=(g i).flag
  by_cases g0:x=g i
  ·rw[dqt g0]at e2;have hV:=qcN hi i2 (by rw[dqt g0]);rw[hV];simp (disch:=omega) only[s1,s2,k1,e1,e2,f1,f2,go_sem]
   repeat' first
    |(apply qd;exact rvk;simp only[go_sem];exact qi)
    |with_reducible apply aiA
   all_goals try exact clz
  ·rw[dqf g0]at e2;simp (disch:=omega) only[s1,s2,k1,e1,e2,f1,f2,go_sem]
   repeat' first
    |with_reducible apply aiA
   all_goals try exact clz
   refine hK _ _ (i+1) ⟨hi,fun j hj=> ?_⟩ om (Wk.temps ?_)
   ·by_cases e:j=i
    ·subst e;exact dqf g0
    ·exact i2 j om
   ·exact tmq
 ·have k1:((i:Int)<n)=False:=eqf om;have hV:=qc9 (p:=fun i=>decide (x=g i)) (n:=n) (fun j hj=>i2 j om);rw[hV];simp (disch:=omega) only[s1,s2,k1,go_sem]
  repeat' first
   |(apply qd;exact rvk;simp only[go_sem];exact qi)
theorem qgv{P:Program}{f z:Nat}{m:Option Nat}(hf:qM P f 19 0 [RV.tmp 4] (cIF z m))(n:Nat)(g:Nat→List AV)(e:Nat→AV)(q:Nat)(first cap:List AV)(p:Nat→Bool)(h:List AObj)
  (hg: ∀i,i<n→(g i).length=z∧kB (g i) 0 m∧cut (g i) 0 m=e i∧(e i).strip=e i∧(e i).flag=true) (hc: ∀i,i<n→ACalls P q (first++ [e i]++cap) h (.bool (p i)) h) (hn:n≤9223372036854775807):
  ACalls P f [.sl n g,.fn (.func q) first cap] h (.int .i64 (qcM p n 0)) h:=by
 refine acO hf ?_;simp (disch:=omega) only[cIF,go_sem];refine qu (T:=fun i:Nat=>ze 19 [(0,.sl n g),(1,.fn (.func q) first cap),(6,.sl n g),(7,.int .i64 n),(8,.int .i64 i)]) (H:=fun _=>h) (inv:=fun i=>i≤n∧ ∀j,j<i→p j=false) (m:=fun i=>n-i) 0 ⟨nzl _,fun j hj=>by omega⟩ (Wk.temps ?_) ?_
 ·exact tmq
 rintro i ⟨i1,i2⟩ K hK
 by_cases hi:i<n
 ·have k1:((i:Int)<n)=True:=eqt om;obtain⟨e1,e2,e3,e4,e5⟩:=hg i hi;have e1:=eqt e1;have e2:=eqt e2;have c:=hc i hi;cases g0:p i with
  |true=>
   rw[g0]at c;have hV:=qcN hi i2 g0;rw[hV];simp (disch:=omega) only[k1,e1,e2,e3,e4,e5,go_sem]
   repeat' first
    |(refine qy c ?_;simp (disch:=omega) only[go_sem])
    |(apply qd;exact rvk;simp only[go_sem];exact qi)
    |with_reducible apply aiA
   all_goals try exact clz
  |false=>
   rw[g0]at c;simp (disch:=omega) only[k1,e1,e2,e3,e4,e5,go_sem]
   repeat' first
    |(refine qy c ?_;simp (disch:=omega) only[go_sem])
    |with_reducible apply aiA
   all_goals try exact clz
   refine hK _ _ (i+1) ⟨hi,fun j hj=> ?_⟩ om (Wk.temps ?_)
   ·by_cases e:j=i
    ·subst e;exact g0
    ·exact i2 j om
   ·exact tmq
 ·have k1:((i:Int)<n)=False:=eqf om;have hV:=qc9 (p:=p) (n:=n) (fun j hj=>i2 j om);rw[hV];simp (disch:=omega) only[k1,go_sem]
  repeat' first
   |(apply qd;exact rvk;simp only[go_sem];exact qi)
theorem qyg{P:Program}{f g:Nat}(hf:qM P f 9 0 [RV.tmp 4] (cCT g)){p:Nat→Bool}{n:Nat}{a b:AV}{h:List AObj}(ha:a.strip=a∧a.flag=true)(hb:b.strip=b∧b.flag=true)(hc:ACalls P g [a,b] h (.int .i64 (qcM p n 0)) h):
  ACalls P f [a,b] h (.bool (ju p n)) h:=by
 obtain⟨a1,a2⟩:=ha;obtain⟨b1,b2⟩:=hb;unfold ju;have e0:strips [a,b]= [a,b]:=by simp[strips,a1,b1]
 rw[←e0]at hc;refine acO hf ?_;simp (disch:=omega) only[cCT,a1,a2,b1,b2,go_sem]
 repeat' first
  |(refine cA hc ?_ ?_;exact flk;simp (disch:=omega) only[go_sem])
  |(apply qd;exact rvk;simp only[go_sem];exact qi)
theorem qCJ{P:Program}{f:Nat}(hf:qM P f 26 0 [RV.tmp 4] cEQ)(n m:Nat)(g k:Nat→At)(h:List AObj)(hk: ∀i,i<n→i<m→(g i).k=(k i).k)(hn:n≤9223372036854775807)(hm:m≤9223372036854775807):
  ACalls P f [.sl n (fun i=> [(g i).v]),.sl m (fun i=> [(k i).v])] h (.bool (decide (n=m∧ ∀i,i<n→g i=k i))) h:=by
 by_cases hnm:n=m
 ·subst hnm;refine acO hf ?_;simp (disch:=omega) only[cEQ,go_sem];refine qu (T:=fun i:Nat=>ze 26 [(0,.sl n (fun i=> [(g i).v])),(1,.sl n (fun i=> [(k i).v])),(12,.int .i64 n),(13,.int .i64 i)]) (H:=fun _=>h) (inv:=fun i=>i≤n∧ ∀j,j<i→g j=k j) (m:=fun i=>n-i) 0 ⟨nzl _,fun j hj=>by omega⟩ (Wk.temps ?_) ?_
  ·exact tmq
  rintro i ⟨i1,i2⟩ K hK
  by_cases hi:i<n
  ·have k1:((i:Int)<n)=True:=eqt om;obtain⟨e1,e2⟩:=At.neq (hk i hi hi);have f1:=(g i).strip;have f2:=(g i).flag;have f3:=(k i).strip;have f4:=(k i).flag
   by_cases g0:g i=k i
   ·rw[dqt g0]at e2;simp (disch:=omega) only[k1,e1,e2,f1,f2,f3,f4,go_sem]
    repeat' first
     |with_reducible apply aiA
    all_goals try exact clz
    refine hK _ _ (i+1) ⟨hi,fun j hj=> ?_⟩ om (Wk.temps ?_)
    ·by_cases e:j=i
     ·subst e;exact g0
     ·exact i2 j om
    ·exact tmq
   ·rw[dqf g0]at e2;rw[dqf (fun hc=>g0 (hc i hi))];simp (disch:=omega) only[k1,e1,e2,f1,f2,f3,f4,go_sem]
    repeat' first
     |(apply qd;exact rvk;simp only[go_sem];exact qi)
     |with_reducible apply aiA
    all_goals try exact clz
  ·have k1:((i:Int)<n)=False:=eqf om;rw[dqt (fun j hj=>i2 j om)];simp (disch:=omega) only[k1,go_sem]
   repeat' first
    |(apply qd;exact rvk;simp only[go_sem];exact qi)
 ·have k1:((n:Int)=m)=False:=eqf om;rw[dqf (fun hc=>hnm hc.1)];refine acO hf ?_;simp (disch:=omega) only[cEQ,k1,go_sem]
  repeat' first
   |(apply qd;exact rvk;simp only[go_sem];exact qi)
end AF
end
section
open Go Go.Proofs AF
def zY:List Nat:= []
def qir:C:=
 ((C.ops [MC 2 (.bool false)]).seq ((C.ops [MV 3 0,O1 4 .slen 3,BC 5 .leq 4 (i6 16),MV 6 5,MG 7 6 true 0,P1 8 6 true (.call 41 true) 7,PF 9 6 8,MV 10 9,MG 11 10 true 0,P1
 12 10 true (.call 180 true) 11,MG 13 10 true 0,P1 14 10 true .slen 13,P2 15 10 true (.bin .eql) 12 14,PF 16 10 15,MV 2 16]).seq
 C.ret))
theorem qfs:qM Tryz.prog 136 17 0 [RV.tmp 2] qir:=fi Tryz.f136 [] zY []
def qk0:C:=
 ((C.ops [MC 2 (.bool false)]).seq ((C.ops [MV 3 0,BC 4 .neq 3 (.str []),MV 5 4,MG 6 5 true 0,P1 7 5 true .slen 6,PC 8 5 true (.bin .leq) 7 (i6 16),PF 9 5 8,MV 10 9,MG 11 10
 true 0,P1 12 10 true (.call 204 true) 11,MG 13 10 true 0,P1 14 10 true .slen 13,P2 15 10 true (.bin .eql) 12 14,PF 16 10 15,MV 2 16]).seq
 C.ret))
theorem qhv:qM Tryz.prog 158 17 0 [RV.tmp 2] qk0:=fi Tryz.f158 [] zY []
def qwx:C:=
 ((C.ops [MC 2 (.bool false)]).seq (((C.ops [MV 5 0,O1 6 .slen 5,BC 7 .lss 6 (i6 1),MV 8 7,MG 9 8 false 0,P1 10 8 false .slen 9,PC 11 8 false (.bin .gtr) 10 (i6 64),PT 12 8
 11,MV 13 12,MG 14 13 false 0,P1 15 13 false (.call 93 true) 14,PC 16 13 false (.bin .neq) 15 (i6 0),PT 17 13 16]).seq (C.cond (.t 17) ((C.ops [MC 2 (.bool false)]).seq C.ret)
 C.skip)).seq (((C.ops [MV 18 0,OC 19 .sidx 18 (i6 0),O1 20 (.call 94 true) 19,MV 3 20]).seq ((C.ops [MV 21 3,BC 22 .neq 21 (i6 1),MV 23 22,MG 24 23 true 3,PC 25 23 true
 (.bin .neq) 24 (i6 3),PF 26 23 25]).seq (C.cond (.t 26) ((C.ops [MC 2 (.bool false)]).seq C.ret) C.skip))).seq (((C.ops [MC 4 (i6 0)]).seq (C.block 0 (((C.ops [MV 27 4,MV 28 0,
 O1 29 .slen 28,BI 30 .lss 27 29]).seq (C.cond (.t 30) C.skip (C.exit 0))).seq ((C.block 1 ((C.ops [MV 33 0,MV 34 4,O2 35 .sidx 33 34,O1 36 (.call 94 true) 35,BC 37 .gtr 36 (i6
 4)]).seq (C.cond (.t 37) ((C.ops [MC 2 (.bool false)]).seq C.ret) C.skip))).seq (C.ops [MV 31 4,BC 32 .add 31 (i6 1),MV 4 32]))).loop)).seq ((C.ops [MC 2 (.bool true)]).seq
 C.ret)))))
theorem ql5:qM Tryz.prog 41 38 0 [RV.tmp 2] qwx:=fi Tryz.f41 [] zY []
def qxu:C:=
 ((C.ops [MC 2 (i6 0)]).seq ((C.ops [MC 3 (i6 0)]).seq (((C.ops [MC 4 (i6 0)]).seq (C.block 0 (((C.ops [MV 6 4,MV 7 0,O1 8 .slen 7,BI 9 .lss 6 8]).seq (C.cond (.t 9) C.skip
 (C.exit 0))).seq ((C.block 1 ((C.ops [MV 12 0,MV 13 4,O2 14 .sidx 12 13,O1 15 (.call 94 true) 14,MV 5 15]).seq ((C.ops [MV 16 5,BC 17 .eql 16 (i6 1),MV 18 17,MG 19 18 false
 5,PC 20 18 false (.bin .eql) 19 (i6 3),PT 21 18 20]).seq (C.cond (.t 21) (C.ops [MV 22 3,BC 23 .add 22 (i6 1),MV 3 23]) C.skip)))).seq (C.ops [MV 10 4,BC 11 .add 10 (i6 1),MV
 4 11]))).loop)).seq ((C.ops [MV 24 3,MV 2 24]).seq
 C.ret))))
theorem qy4:qM Tryz.prog 180 25 0 [RV.tmp 2] qxu:=fi Tryz.f180 [] zY []
def qxy:C:=
 ((C.ops [MC 2 (i6 0)]).seq ((C.ops [MC 3 (i6 0)]).seq (((C.ops [MV 6 0,O1 7 .slen 6,MC 8 (i6 0)]).seq (C.block 0 ((C.ops [BI 9 .lss 8 7]).seq ((C.cond (.t 9) C.skip (C.exit
 0)).seq ((C.block 1 ((C.ops [MV 10 8,MV 4 10]).seq ((C.ops [MV 11 0,MV 12 4,O2 13 .sidx 11 12,O1 14 (.call 176 true) 13,MV 5 14]).seq ((C.ops [MV 15 5,BC 16 .eql 15 (i6 1),
 MV 17 16,MG 18 17 false 5,PC 19 17 false (.bin .eql) 18 (i6 3),PT 20 17 19]).seq (C.cond (.t 20) (C.ops [MV 21 3,BC 22 .add 21 (i6 1),MV 3 22]) C.skip))))).seq (C.ops [BC 23
 .add 8 (i6 1),MV 8 23])))).loop)).seq ((C.ops [MV 24 3,MV 2 24]).seq
 C.ret))))
theorem qy8:qM Tryz.prog 204 25 0 [RV.tmp 2] qxy:=fi Tryz.f204 [] zY []
def qCn:C:=
 ((C.ops [MC 2 (i6 0)]).seq (((C.ops [MV 6 0,O1 7 .slen 6,BC 8 .gtr 7 (i6 65536)]).seq (C.cond (.t 8) ((C.ops [MC 2 (i6 4)]).seq C.ret) C.skip)).seq ((C.ops [MV 9 0,O1 10 (.call
 145 true) 9,MV 3 10]).seq (((C.ops [MC 4 (i6 0)]).seq (C.block 0 (((C.ops [MV 11 4,MV 12 0,O1 13 .slen 12,BI 14 .lss 11 13]).seq (C.cond (.t 14) C.skip (C.exit 0))).seq
 ((C.block 1 ((C.ops [MV 17 0,MV 18 4,O2 19 .sidx 17 18,O1 20 (.call 94 true) 19,MV 5 20]).seq ((C.ops [MV 21 5,BC 22 .eql 21 (i6 0),MV 23 22,MG 24 23 false 5,PC 25 23 false
 (.bin .eql) 24 (i6 2),MG 26 23 false 25,MG 27 26 true 3,MG 28 26 true 4,P2 29 26 true (.idxA 1) 27 28,P1 30 26 true (.load none) 29,P1 31 26 true (.un UnOp.not) 30,QF 32 23
 false 26 31,PT 33 23 32]).seq (C.cond (.t 33) ((C.ops [MC 2 (i6 11)]).seq C.ret) C.skip)))).seq (C.ops [MV 15 4,BC 16 .add 15 (i6 1),MV 4 16]))).loop)).seq ((C.ops [MC 2 (i6
 0)]).seq
 C.ret)))))
theorem qzT:qM Tryz.prog 93 34 0 [RV.tmp 2] qCn:=fi Tryz.f93 [] zY []
def qEu:C:=
 ((C.ops [MC 2 (i6 0)]).seq ((C.block 0 ((C.ops [MV 4 0,BC 5 .geq 4 (.int .u8 97),MV 6 5,MG 7 6 true 0,PC 8 6 true (.bin .leq) 7 (.int .u8 122),PF 9 6 8,MV 10 9,MG 11 10
 false 0,PC 12 10 false (.bin .geq) 11 (.int .u8 65),MG 13 10 false 12,MG 14 13 true 0,PC 15 13 true (.bin .leq) 14 (.int .u8 90),QF 16 10 false 13 15,PT 17 10 16,MV 3
 17]).seq (C.cond (.t 3) ((C.ops [MC 2 (i6 1)]).seq C.ret) ((C.ops [MV 19 0,BC 20 .eql 19 (.int .u8 94),MV 21 20,MG 22 21 false 0,PC 23 21 false (.bin .eql) 22 (.int .u8 126),
 PT 24 21 23,MV 25 24,MG 26 25 false 0,PC 27 25 false (.bin .eql) 26 (.int .u8 37),PT 28 25 27,MV 18 28]).seq (C.cond (.t 18) ((C.ops [MC 2 (i6 2)]).seq C.ret) ((C.ops [MV 30
 0,BC 31 .geq 30 (.int .u8 48),MV 32 31,MG 33 32 true 0,PC 34 32 true (.bin .leq) 33 (.int .u8 57),PF 35 32 34,MV 29 35]).seq (C.cond (.t 29) ((C.ops [MC 2 (i6 3)]).seq C.ret)
 ((C.ops [MV 37 0,BC 38 .eql 37 (.int .u8 39),MV 36 38]).seq (C.cond (.t 36) ((C.ops [MC 2 (i6 4)]).seq C.ret) ((C.ops [MV 40 0,BC 41 .eql 40 (.int .u8 46),MV 42 41,MG 43 42
 false 0,PC 44 42 false (.bin .eql) 43 (.int .u8 44),PT 45 42 44,MV 46 45,MG 47 46 false 0,PC 48 46 false (.bin .eql) 47 (.int .u8 59),PT 49 46 48,MV 50 49,MG 51 50 false 0,
 PC 52 50 false (.bin .eql) 51 (.int .u8 58),PT 53 50 52,MV 54 53,MG 55 54 false 0,PC 56 54 false (.bin .eql) 55 (.int .u8 33),PT 57 54 56,MV 58 57,MG 59 58 false 0,PC 60 58
 false (.bin .eql) 59 (.int .u8 63),PT 61 58 60,MV 62 61,MG 63 62 false 0,PC 64 62 false (.bin .eql) 63 (.int .u8 40),PT 65 62 64,MV 66 65,MG 67 66 false 0,PC 68 66 false
 (.bin .eql) 67 (.int .u8 41),PT 69 66 68,MV 70 69,MG 71 70 false 0,PC 72 70 false (.bin .eql) 71 (.int .u8 45),PT 73 70 72,MV 39 73]).seq (C.cond (.t 39) ((C.ops [MC 2 (i6
 5)]).seq C.ret) ((C.ops [MV 75 0,BC 76 .eql 75 (.int .u8 32),MV 74 76]).seq (C.cond (.t 74) ((C.ops [MC 2 (i6 6)]).seq C.ret) C.skip))))))))))))).seq ((C.ops [MC 2 (i6 0)]).seq
 C.ret)))
theorem qC9:qM Tryz.prog 94 77 0 [RV.tmp 2] qEu:=fi Tryz.f94 [] zY []
def qxq:C:=
 ((C.ops [MC 2 (i6 0)]).seq ((C.block 0 ((C.ops [MV 4 0,BC 5 .geq 4 (.int .u8 97),MV 6 5,MG 7 6 true 0,PC 8 6 true (.bin .leq) 7 (.int .u8 122),PF 9 6 8,MV 10 9,MG 11 10
 false 0,PC 12 10 false (.bin .geq) 11 (.int .u8 65),MG 13 10 false 12,MG 14 13 true 0,PC 15 13 true (.bin .leq) 14 (.int .u8 90),QF 16 10 false 13 15,PT 17 10 16,MV 3
 17]).seq (C.cond (.t 3) ((C.ops [MC 2 (i6 1)]).seq C.ret) ((C.ops [MV 19 0,BC 20 .eql 19 (.int .u8 94),MV 21 20,MG 22 21 false 0,PC 23 21 false (.bin .eql) 22 (.int .u8 126),
 PT 24 21 23,MV 25 24,MG 26 25 false 0,PC 27 25 false (.bin .eql) 26 (.int .u8 37),PT 28 25 27,MV 18 28]).seq (C.cond (.t 18) ((C.ops [MC 2 (i6 2)]).seq C.ret) ((C.ops [MV 30
 0,BC 31 .geq 30 (.int .u8 48),MV 32 31,MG 33 32 true 0,PC 34 32 true (.bin .leq) 33 (.int .u8 57),PF 35 32 34,MV 29 35]).seq (C.cond (.t 29) ((C.ops [MC 2 (i6 3)]).seq C.ret)
 ((C.ops [MV 37 0,BC 38 .eql 37 (.int .u8 39),MV 36 38]).seq (C.cond (.t 36) ((C.ops [MC 2 (i6 4)]).seq C.ret) ((C.ops [MV 40 0,BC 41 .eql 40 (.int .u8 32),MV 39 41]).seq
 (C.cond (.t 39) ((C.ops [MC 2 (i6 6)]).seq C.ret) ((C.ops [MV 43 0,BC 44 .neq 43 (.int .u8 0),MV 45 44,MG 46 45 true 0,PN 47 45 true (.call 226 true) [.c (.str [46,44,59,58,
 33,63,40,41,45]),.t 46],PC 48 45 true (.bin .geq) 47 (i6 0),PF 49 45 48,MV 42 49]).seq (C.cond (.t 42) ((C.ops [MC 2 (i6 5)]).seq C.ret) C.skip))))))))))))).seq ((C.ops [MC
 2 (i6 0)]).seq
 C.ret)))
theorem qy0:qM Tryz.prog 176 50 0 [RV.tmp 2] qxq:=fi Tryz.f176 [] zY []
def qxh:C:=
 ((C.ops [ON 2 (.nilo 0 1 4) []]).seq ((C.ops [⟨some 5,none,.bslc 1 1 0 4 [.bool false] [],[]⟩,MV 3 5]).seq (((C.ops [MC 4 (i6 0)]).seq (C.block 0 (((C.ops [MV 6 4,MV 7 0,O1 8
 .slen 7,BI 9 .lss 6 8]).seq (C.cond (.t 9) C.skip (C.exit 0))).seq ((C.block 1 (C.ops [MV 12 3,MV 13 0,MV 14 4,O2 15 .sidx 13 14,O1 16 (.call 94 true) 15,BC 17 .eql 16 (i6
 2),MV 18 17,MG 19 18 true 4,PC 20 18 true (.bin .gtr) 19 (i6 0),PF 21 18 20,MV 22 21,MG 23 22 true 0,MG 24 22 true 4,PC 25 22 true (.bin .sub) 24 (i6 1),P2 26 22 true
 .sidx 23 25,P1 27 22 true (.call 94 true) 26,PC 28 22 true (.bin .eql) 27 (i6 1),MG 29 22 true 28,MG 30 29 false 3,MG 31 29 false 4,PC 32 29 false (.bin .sub) 31 (i6 1),P2
 33 29 false (.idxA 1) 30 32,P1 34 29 false (.load none) 33,QT 35 22 true 29 34,PF 36 22 35,⟨some 37,none,.bslc 2 1 1 4 [.bool false] [(0,1)],[.t 36]⟩,O2 38 (.app 3 1 4 1)
 12 37,MV 3 38])).seq (C.ops [MV 10 4,BC 11 .add 10 (i6 1),MV 4 11]))).loop)).seq ((C.ops [MV 39 3,MV 2 39]).seq
 C.ret))))
theorem qyP:qM Tryz.prog 145 40 4 [RV.tmp 2] qxh:=fi Tryz.f145 [2,5,37,38] zY []
def qxK:C:=
 ((C.ops [MC 4 (i6 0)]).seq ((C.ops [MV 5 0,MV 6 1,O2 7 (.call 237 true) 5 6,MV 4 7]).seq
 C.ret))
theorem qzm:qM Tryz.prog 226 8 0 [RV.tmp 4] qxK:=fi Tryz.f226 [] zY []
def qkY:C:=
 ((C.ops [MC 2 (.bool false)]).seq (((C.ops [MV 4 0,BC 5 .eql 4 (.str []),MV 6 5,MG 7 6 false 0,P1 8 6 false .slen 7,PC 9 6 false (.bin .gtr) 8 (i6 64),PT 10 6 9,MV 11 10,MG
 12 11 false 0,P1 13 11 false (.call 172 true) 12,PC 14 11 false (.bin .neq) 13 (i6 0),PT 15 11 14]).seq (C.cond (.t 15) ((C.ops [MC 2 (.bool false)]).seq C.ret) C.skip)).seq
 (((C.ops [MV 16 0,OC 17 .sidx 16 (i6 0),O1 18 (.call 176 true) 17,MV 3 18]).seq ((C.ops [MV 19 3,BC 20 .neq 19 (i6 1),MV 21 20,MG 22 21 true 3,PC 23 21 true (.bin .neq) 22
 (i6 3),PF 24 21 23]).seq (C.cond (.t 24) ((C.ops [MC 2 (.bool false)]).seq C.ret) C.skip))).seq ((C.ops [MV 25 0,O1 26 .s2b 25,OC 27 (.call 177 true) 26 (.fn (Fn.func 178) []
 []),O1 28 (.un UnOp.not) 27,MV 2 28]).seq
 C.ret))))
theorem qht:qM Tryz.prog 129 29 0 [RV.tmp 2] qkY:=fi Tryz.f129 [] zY []
def qtq:C:=
 ((C.ops [⟨some 2,none,.alloc 0 33 [i6 0],[]⟩]).seq (((C.ops [MV 6 0,O1 7 .slen 6,BC 8 .gtr 7 (i6 65536)]).seq (C.cond (.t 8) ((C.ops [⟨none,none,.store 1,[.t 2,.c (i6
 4)]⟩]).seq C.ret) C.skip)).seq (((C.ops [MV 9 0,O1 10 (.call 217 true) 9]).seq (C.block 0 (C.range (.t 10) [11,12] (C.ops [MV 4 12]) (C.block 1 ((C.ops [MV 13 4,OC 14 .sidx 13
 (i6 0),O1 15 (.call 176 true) 14,MV 5 15]).seq ((C.ops [MV 16 5,BC 17 .eql 16 (i6 0),MV 18 17,MG 19 18 false 5,PC 20 18 false (.bin .eql) 19 (i6 2),PT 21 18 20]).seq (C.cond
 (.t 21) ((C.ops [⟨none,none,.store 1,[.t 2,.c (i6 11)]⟩]).seq C.ret) C.skip))))))).seq ((C.ops [⟨none,none,.store 1,[.t 2,.c (i6 0)]⟩]).seq
 C.ret))))
theorem qso:qM Tryz.prog 172 22 1 [RV.cell 2 none] qtq:=fi Tryz.f172 [2] zY []
def qxr:C:=
 ((C.ops [MC 4 (.bool false)]).seq ((C.ops [MV 5 0,MV 6 1,O2 7 (.call 227 true) 5 6,BC 8 .geq 7 (i6 0),MV 4 8]).seq
 C.ret))
theorem qy1:qM Tryz.prog 177 9 0 [RV.tmp 4] qxr:=fi Tryz.f177 [] zY []
def qxs:C:=
 ((C.ops [MC 2 (.bool false)]).seq ((C.ops [MV 4 0,O1 5 (.call 176 true) 4,MV 3 5]).seq ((C.ops [MV 6 3,BC 7 .eql 6 (i6 5),MV 8 7,MG 9 8 false 3,PC 10 8 false (.bin .eql) 9
 (i6 6),PT 11 8 10,MV 2 11]).seq
 C.ret)))
theorem qy2:qM Tryz.prog 178 12 0 [RV.tmp 2] qxs:=fi Tryz.f178 [] zY []
def qxD:C:=
 ((C.ops [O1 1 (.box 0 9) 0,MC 2 .nilfn]).seq ((C.ops [O1 3 (.mkfn (Fn.func 245) 0) 1,MV 2 3]).seq
 C.ret))
theorem qzf:qM Tryz.prog 217 4 1 [RV.tmp 2] qxD:=fi Tryz.f217 [1] zY []
def qxL:C:=
 ((C.ops [MC 4 (i6 0)]).seq (((C.ops [MV 6 0,O1 7 .len 6,MC 8 (i6 0)]).seq (C.block 0 ((C.ops [BI 9 .lss 8 7]).seq ((C.cond (.t 9) C.skip (C.exit 0)).seq ((C.block 1 ((C.ops [MV
 10 8,MV 5 10]).seq ((C.ops [MV 11 1,MV 12 0,MV 13 5,O2 14 (.idxA 1) 12 13,LD 15 14,O2 16 .callv 11 15]).seq (C.cond (.t 16) ((C.ops [MV 17 5,MV 4 17]).seq C.ret)
 C.skip)))).seq (C.ops [BC 18 .add 8 (i6 1),MV 8 18])))).loop)).seq ((C.ops [MC 4 (i6 (-1))]).seq
 C.ret)))
theorem qzn:qM Tryz.prog 227 19 0 [RV.tmp 4] qxL:=fi Tryz.f227 [] zY []
def qtz:C:=
 ((C.ops [MC 4 (.bool false)]).seq ((C.ops [MV 5 0,O1 6 .slen 5,MV 7 1,O1 8 .slen 7,BI 9 .geq 6 8,MV 10 9,MG 11 10 true 0,MG 12 10 true 0,P1 13 10 true .slen 12,MG 14 10
 true 1,P1 15 10 true .slen 14,P2 16 10 true (.bin .sub) 13 15,P2 17 10 true (.sslc true false) 11 16,MG 18 10 true 1,P2 19 10 true (.bin .eql) 17 18,PF 20 10 19,MV 4
 20]).seq
 C.ret))
theorem qsy:qM Tryz.prog 271 21 0 [RV.tmp 4] qtz:=fi Tryz.f271 [] zY []
def qxM:C:=
 ((C.ops [MC 3 (i6 0)]).seq ((C.ops [MC 4 (i6 1)]).seq (C.block 0 (((C.ops [MV 5 4,LD 6 1,O1 7 .slen 6,BI 8 .leq 5 7]).seq (C.cond (.t 8) C.skip (C.exit 0))).seq ((C.block 1
 (((C.ops [MV 11 4,LD 12 1,O1 13 .slen 12,BI 14 .lss 11 13,MV 15 14,P1 16 15 true (.load none) 1,MG 17 15 true 4,P2 18 15 true .sidx 16 17,P1 19 15 true (.call 176 true) 18,
 PC 20 15 true (.bin .eql) 19 (i6 2),PF 21 15 20,MV 22 21,P1 23 22 true (.load none) 1,MG 24 22 true 3,MG 25 22 true 4,PN 26 22 true (.call 246 true) [.t 23,.t 24,.t 25],PF
 27 22 26]).seq (C.cond (.t 27) (C.exit 1) C.skip)).seq (((C.ops [MV 28 0,MV 29 3,LD 30 1,MV 31 3,MV 32 4,ON 33 (.sslc true true) [.t 30,.t 31,.t 32],ON 34 .callv [.t 28,.t
 29,.t 33],O1 35 (.un UnOp.not) 34]).seq (C.cond (.t 35) C.ret C.skip)).seq (C.ops [MV 36 4,MV 3 36])))).seq (C.ops [MV 9 4,BC 10 .add 9 (i6 1),MV 4
 10]))).loop)))
theorem qzp:qM Tryz.prog 245 37 0 [] qxM:=fi Tryz.f245 [] zY []
def qxN:C:=
 ((C.ops [MC 6 (.bool false)]).seq ((C.ops [MV 7 0,MV 8 1,O2 9 .sidx 7 8,O1 10 (.call 176 true) 9,BC 11 .eql 10 (i6 1),MV 12 11,MG 13 12 true 2,MG 14 12 true 1,P2 15 12 true
 (.bin .gtr) 13 14,PF 16 12 15,MV 6 16]).seq
 C.ret))
theorem qzq:qM Tryz.prog 246 17 0 [RV.tmp 6] qxN:=fi Tryz.f246 [] zY []
end
section
namespace HY
def qfC(n:Int):Int:=
 if (97≤n∧n≤122)∨(65≤n∧n≤90) then 1
 else if n=94∨n=126∨n=37 then 2
 else if 48≤n∧n≤57 then 3
 else if n=39 then 4
 else if n=32 then 6
 else if n=46∨n=44∨n=59∨n=58∨n=33∨n=63∨n=40∨n=41∨n=45 then 5
 else 0
def kind(b:UInt8):Int:=qfC b.toNat
def ch(s:List UInt8)(i:Nat):UInt8:=s.getD i 0
theorem ke(s:List UInt8)(i:Nat):(s[i]?).getD 0=ch s i:=by rw[ch,gdqA]
def qan(frm:Nat)(cur:List UInt8):List UInt8→List (Nat×List UInt8)
 | []=> [(frm,cur)]
 |c::r=>if kind c=2∧kind (ch cur 0)=1 then qan frm (cur++ [c]) r else (frm,cur)::qan (frm+cur.length) [c] r
def zN:List UInt8→List (Nat×List UInt8)
 | []=> []
 |c::r=>qan 0 [c] r
def qgc(s:List UInt8):List (List UInt8):=(zN s).map (·.2)
theorem qpJ(frm:Nat)(cur r:List UInt8):qan frm cur r≠ []:=by
 induction r generalizing frm cur with
 |nil=>simp[qan]
 |cons c r ih=>simp only[qan];split;exact ih _ _;simp
theorem qlu{frm:Nat}{cur r:List UInt8}(hc:cur≠ []): ∀x∈qan frm cur r,x.2≠ []:=by
 induction r generalizing frm cur with
 |nil=>intro x hx;simp[qan]at hx;subst hx;exact hc
 |cons c r ih=>
  intro x hx;simp only[qan]at hx;split at hx
  ·exact ih (by simp) x hx
  ·rcases List.mem_cons.1 hx with rfl|hx
   ·exact hc
   ·exact ih (by simp) x hx
theorem qtT{s:List UInt8}: ∀x∈qgc s,x≠ []:=by
 cases s with
 |nil=>intro x hx;simp[qgc,zN]at hx
 |cons c r=>
  intro x hx;simp only[qgc,zN,List.mem_map]at hx;obtain⟨y,hy,rfl⟩:=hx;exact qlu (by simp) y hy
def zV(s:List UInt8):Nat→Bool
 |0=>false
 |i+1=>decide (kind (ch s (i+1))=2)&&(decide (kind (ch s i)=1)||zV s i)
def qcu(s:List UInt8):List Bool:=(List.range s.length).map (zV s)
theorem qd0{s:List UInt8}{i:Nat}(h:i<s.length):(qcu s).getD i false=zV s i:=by simp[qcu,gdqA,h]
def qcn(s:List UInt8)(f i:Nat):Prop:=f<i∧(decide (kind (ch s (i-1))=1)||zV s (i-1))=decide (kind (ch s f)=1)
theorem qco{s:List UInt8}{f i:Nat}(h:qcn s f i):zV s i=(decide (kind (ch s i)=2)&&decide (kind (ch s f)=1)):=by
 obtain⟨h1,h2⟩:=h;cases i with
 |zero=>omega
 |succ i=>simp only[zV];rw[←h2];rfl
theorem qfx(s:List UInt8):qcn s 0 1:=⟨om,by simp[zV]⟩
theorem qmj{s:List UInt8}{f i:Nat}(h:qcn s f i)(hr:zV s i=true):qcn s f (i+1):=by
 have h3:=qco h;rw[hr]at h3;refine⟨by have:=h.1;omega,?_⟩;rw[Nat.add_sub_cancel,hr,Bool.or_true];symm at h3;simp only[Bool.and_eq_true]at h3;exact h3.2.symm
theorem qiV{s:List UInt8}{f i:Nat}(h:qcn s f i)(hr:zV s i=false):qcn s i (i+1):=
 ⟨om,by rw[Nat.add_sub_cancel,hr,Bool.or_false]⟩
def zW(c:List UInt8):Bool:=decide (kind (ch c 0)=0)||decide (kind (ch c 0)=2)
def zU(s:List UInt8):Int:=if 65536<s.length then 4 else if (qgc s).any zW then 11 else 0
def kE(s:List UInt8):Bool:=
 decide (0<s.length)&&decide (s.length≤64)&&decide (zU s=0)&&(decide (kind (ch s 0)=1)||decide (kind (ch s 0)=3))&& !(s.any fun c=>decide (kind c=5)||decide (kind c=6))
end HY
end
section
namespace HY
def qsG(s p:List UInt8):Bool:=decide (s.drop (s.length-p.length)=p)
def qa4(s:List UInt8)(i:Nat):Bool:=decide (kind (ch s i)=0)||(decide (kind (ch s i)=2)&& !zV s i)
end HY
end
section
set_option linter.all false
set_option linter.unusedSimpArgs false
set_option linter.unusedVariables false
set_option linter.unusedSectionVars false
open Go Go.Proofs AF HY
namespace HY
def strs(l:List (List UInt8)):AV:= .sl l.length fun i=> [.str (l.getD i [])]
theorem qu7 {P : Program} {f : FuncId} {fn : Func} (h : P.funcs[f]? = some fn) (h1 : fn.body.isSome = true) (h2 : (fn.name != "runtime.NumGoroutine") = true) : okF P f = true := by
 unfold okF;rw[h];simp[h1,h2]
theorem qFT(s:List UInt8)(c:Int)(h:List AObj):ACalls Tryz.prog 237 [.str s,.int .u8 c] h (.int .i64 (Go.Lib.indexByte s c.toNat.toUInt8)) h:=by
 refine⟨qu7 Tryz.func237 (by kernel_rfl) (by kernel_rfl),fun w σ xs H hv=> ?_⟩;obtain⟨x,y,rfl,hx,hy⟩:=hv.two;rw[jO hx,zD hy];refine (callsIn_wide.2 (qqr ⟨s.toArray⟩ c w)).mono ?_;rintro e w' ⟨rfl,rfl⟩;exact⟨_,σ,rfl,H,.imm .int,Ext.refl _ _⟩
theorem qFR(s:List UInt8)(c:Int)(h:List AObj):ACalls Tryz.prog 226 [.str s,.int .u8 c] h (.int .i64 (Go.Lib.indexByte s c.toNat.toUInt8)) h:=by
 refine qE qzm (by simp) ?_;simp only[lco,lnl,Nat.reduceAdd,Nat.reduceSub,List.replicate,lca,lna,lan];simp (disch:=omega) only[qxK,go_sem,qp,dvP,mdP]
 repeat' first
  |(refine qH (qFT s c _) ?_ ?_;exact flk;simp (disch:=omega) only[go_sem,qp,dvP,mdP])
  |(apply qd;exact rvk;simp only[go_sem];exact qi)
theorem qnk: ∀n:Fin 256,(0≤Go.Lib.indexByte [46,44,59,58,33,63,40,41,45] (UInt8.ofNat n.val))↔(n.val=46∨n.val=44∨n.val=59∨n.val=58∨n.val=33∨n.val=63∨n.val=40∨n.val=41∨n.val=45):=by decide+kernel
theorem qEJ(n:Int)(h:List AObj)(n0:0≤n)(n1:n≤255):ACalls Tryz.prog 176 [.int .u8 n] h (.int .i64 (qfC n)) h:=by
 obtain⟨m,rfl⟩: ∃m:Nat,n=m:=⟨n.toNat,om⟩
 have hp:=qnk ⟨m,om⟩;simp only at hp;obtain⟨q,hq⟩: ∃q,q=Go.Lib.indexByte [46,44,59,58,33,63,40,41,45] (UInt8.ofNat m):=⟨_,rfl⟩
 rw[←hq]at hp;have hc: ∀h,ACalls Tryz.prog 226 [.str [46,44,59,58,33,63,40,41,45],.int .u8 (m:Int)] h (.int .i64 q) h:=fun h=>by rw[hq];exact qFR _ _ h
 refine qE qy0 (by simp) ?_;simp only[lco,lnl,Nat.reduceAdd,Nat.reduceSub,List.replicate,lca,lna,lan];simp (disch:=omega) only[qxq,go_sem,qp,dvP,mdP]
 repeat' first
  |(refine qO (fun e=>⟨?_,hc _⟩) ?_;exact flk;simp (disch:=omega) only[go_sem,qp,dvP,mdP])
  |(apply qd;exact rvk;simp only[go_sem];apply qh)
  |with_reducible first|intro _|apply aiA
 all_goals first
  |omega
  |(unfold qfC;(repeat' split)<;>omega)
theorem qEL(n:Int)(h:List AObj):ACalls Tryz.prog 94 [.int .u8 n] h (.int .i64 (qfC n)) h:=by
 refine qE qC9 (by simp) ?_;simp only[lco,lnl,Nat.reduceAdd,Nat.reduceSub,List.replicate,lca,lna,lan];simp (disch:=omega) only[qEu,go_sem,qp,dvP,mdP]
 repeat' first
  |(apply qd;exact rvk;simp only[go_sem];apply qh)
  |with_reducible first|intro _|apply aiA
 all_goals first
  |omega
  |grind [qfC]
end HY
end
section
set_option linter.all false
set_option linter.unusedSimpArgs false
set_option linter.unusedVariables false
set_option linter.unusedSectionVars false
open Go Go.Proofs AF HY
namespace HY
theorem _root_.AF.LowI.ret{h hh:List AObj}{ts:List AV}{L:LInfo}(s:LS)(hl:LowI h hh)(hts: ∀c∈ts,qV (h.length+1) c=true):
  (hh++ [AObj.lp s ts L]).length=(h++ [AObj.lp .ready ts L]).length∧ ∀o∈hh++ [AObj.lp s ts L],o∈h++ [AObj.lp .ready ts L]∨lowO (h++ [AObj.lp .ready ts L]).length o:=by
 refine⟨by simp[hl.1],fun o ho=> ?_⟩;rw[lap,List.length_singleton];rcases List.mem_append.1 ho with ho|ho
 ·rcases hl.2 o ho with h1|h1
  ·exact .inl (List.mem_append_left _ h1)
  ·exact .inr h1.2
 ·rw[List.mem_singleton]at ho;subst ho;exact .inr hts
theorem qh9(b:UInt8):0≤((b.toNat:Nat):Int)∧((b.toNat:Nat):Int)≤255:=by
 have:=b.toNat_lt
 omega
theorem qcE(b:UInt8)(h:List AObj):ACalls Tryz.prog 176 [.int .u8 (b.toNat:Int)] h (.int .i64 (kind b)) h:=qEJ _ h (qh9 b).1 (qh9 b).2
theorem qdn(b:UInt8)(h:List AObj):ACalls Tryz.prog 94 [.int .u8 (b.toNat:Int)] h (.int .i64 (kind b)) h:=qEL _ h
theorem qc5{s:List UInt8}{f i:Nat}(hf:f<i)(hi:i<s.length):qan f ((s.drop f).take (i-f)) (s.drop i)=if kind (ch s i)=2∧kind (ch s f)=1 then qan f ((s.drop f).take (i+1-f)) (s.drop (i+1)) else (f,(s.drop f).take (i-f))::qan i ((s.drop i).take (i+1-i)) (s.drop (i+1)):=by
 have e1:s.drop i=ch s i::s.drop (i+1):=by rw[List.drop_eq_getElem_cons hi];simp[ch,hi]
 have e2:ch ((s.drop f).take (i-f)) 0=ch s f:=by simp[ch,gdqA,List.getElem?_take,show 0<i-f by omega]
 have e3:(s.drop f).take (i+1-f)=(s.drop f).take (i-f)++ [ch s i]:=by
  rw[show i+1-f=(i-f)+1 by omega,List.take_add_one,List.getElem?_drop,show f+(i-f)=i by omega];simp[ch,gdqA,hi]
 have e4:f+((s.drop f).take (i-f)).length=i:=by rw[List.length_take,List.length_drop];omega
 have e5:(s.drop i).take (i+1-i)= [ch s i]:=by rw[e1,show i+1-i=1 by omega];rfl
 rw[e5,e1];simp only[qan,e2,e4,e3]
end HY
end
section
set_option linter.all false
set_option linter.unusedSimpArgs false
set_option linter.unusedVariables false
set_option linter.unusedSectionVars false
open Go Go.Proofs AF HY
namespace HY
def qc3(l:List Bool):AV:= .sl l.length fun i=> [.bool (l.getD i false)]
theorem qsW{cs:List AV}{n m k:Nat}{f:Nat→List AV}{fz:Nat→Bool}{h:List AObj}(e:cs.length=m)(ek:k=m)(hf: ∀i c,cs[i]? =some c→f i= [c])(hr: ∀c∈cs,rei fz h (n+1) c=c):VLe (.sl m fun i=>((List.drop i cs).take 1).map (rei fz h (n+1))) (.sl k f):=by
 subst e ek;refine qwL rfl (fun i hi=> ?_);rw[List.drop_eq_getElem_cons hi,hf i cs[i] (zL hi)];show [rei fz h (n+1) cs[i]]=_;rw[hr cs[i] (List.getElem_mem hi)]
def qak(l:List (List UInt8)):List AV:=l.map .str
theorem qaX(l:List (List UInt8)):(qak l).length=l.length:=by simp[qak]
theorem qg1{l:List (List UInt8)}{n m:Nat}{fz:Nat→Bool}{h:List AObj}(e:l.length=m):VLe (.sl m fun i=>((List.drop i (qak l)).take 1).map (rei fz h (n+1))) (strs l):=by
 subst e;refine qsW (qaX l) rfl (fun i c hc=> ?_) (fun c hc=> ?_)
 ·unfold qak at hc;rw[List.getElem?_map,Option.map_eq_some_iff]at hc;obtain⟨x,hx,rfl⟩:=hc;simp[gdqA,hx]
 ·unfold qak at hc;rw[List.mem_map]at hc;obtain⟨x,_,rfl⟩:=hc;rfl
def qaf(s:List UInt8)(i:Nat):List AV:=(List.range i).map fun j=>AV.bool (zV s j)
theorem qdl(s:List UInt8)(i:Nat):qaf s (i+1)=qaf s i++ [.bool (zV s i)]:=by simp[qaf,List.range_succ]
theorem qcb(s:List UInt8)(i:Nat):(qaf s i).length=i:=by simp[qaf]
theorem t95(s:List UInt8)(h:List AObj)(hs:s.length≤1000000000):ACalls Tryz.prog 145 [.str s] h (qc3 (qcu s)) h:=by
 refine qE qyP (by simp) ?_;simp only[lco,lnl,Nat.reduceAdd,Nat.reduceSub,List.replicate,lca,lna,lan];simp (disch:=omega) only[qxh,qY,go_sem,qp,dvP,mdP]
 all_goals first
  |omega
  |(simp;done)
  |skip
 refine qu (T:=fun i:Nat×Nat×AObj=>ze 40 [(0,.str s),(3,.osl (h.length+1) i.2.1 1 0 i.1),(4,.int .i64 i.1)]) (H:=fun i=>h++ [.emp 1,.mem i.2.1 4 (qaf s i.1),i.2.2,.emp 0])
  (inv:=fun i=>i.1≤s.length∧qJ [i.2.2] 0=true) (m:=fun i=>s.length-i.1) (0,1,.emp 0) ⟨by simp only;omega,rfl⟩ (Wk.temps ?_) ?_
 ·(simp only[ze,List.foldl,go_sem,qg,qc,qa,qf];try (repeat' first|(with_reducible apply aiA)|(apply qh;omega)|(apply qe;rfl)|exact qi))
 ·rintro⟨i,v,O⟩ ⟨i1,i2⟩ K hK;simp only at i1 i2 hK;have i2': ∀m,qJ (O::m) 0=true:=fun _=>i2
  have eL:=qcb s i;have eT:List.take i (qaf s i)=qaf s i:=ltl om
  by_cases hi:i<s.length
  ·cases i with
   |zero=>
    have hz:(((0:Nat):Int)<(s.length:Int))=True:=eqt om;have hz0:((0:Nat):Int)=0:=rfl;have hlt:((0:Int)<0)=False:=eqf om;have hc0:qaf s 0= []:=rfl;have hz1:((0:Int)<(s.length:Int))=True:=eqt om;have hR:zV s 0=false:=rfl
    by_cases hk0:kind (ch s 0)=2
    all_goals
     simp (disch:=omega) only[ze,List.foldl,ke,i2',qY,hz0,hlt,hc0,hz1,hk0,go_sem,qp,dvP,mdP]
     repeat' first
      |(refine qj ((.int .i64 0)) ?_;simp (disch:=omega) only[ke,i2',qY,hz0,hlt,hc0,hk0,go_sem,qp,dvP,mdP])
      |(refine qH (qdn _ _) ?_ ?_;exact flk;simp (disch:=omega) only[ke,i2',qY,hz0,hlt,hc0,hk0,go_sem,qp,dvP,mdP])
      |with_reducible first|intro _|apply aiA
     all_goals try exact clz
     refine hK _ _ (0+1,v+1,.mem (qo (some O)+1) 4 [.bool (zV s 0)]) ⟨by simp only;omega,rfl⟩ (by simp only;omega) ?_;rw[qdl];simp only[hR,hc0,lna];refine Wk.temps ?_
     (simp only[ze,List.foldl,go_sem,qg,qc,qa,qf];try (repeat' first|(with_reducible apply aiA)|(apply qh;omega)|(apply qe;rfl)|exact qi))
   |succ i=>
    have hx:(((i+1:Nat):Int)-1).toNat=i:=by omega
    have hg:(qaf s (i+1))[i]? =some (.bool (zV s i)):=by simp[qaf]
    have hp:(0<((i+1:Nat):Int))=True:=eqt om;simp (disch:=omega) only[ze,List.foldl,ke,i2',eL,eT,qY,hx,hg,hp,go_sem,qp,dvP,mdP]
    repeat' first
     |(refine qH (qdn _ _) ?_ ?_;exact flk;simp (disch:=omega) only[ke,i2',eL,eT,qY,hx,hg,hp,go_sem,qp,dvP,mdP])
     |(refine qO (fun e=>⟨?_,qdn _ _⟩) ?_;exact flk;simp (disch:=omega) only[ke,i2',eL,eT,qY,hx,hg,hp,go_sem,qp,dvP,mdP])
     |(apply qb;exact rvk;simp only[go_sem])
     |with_reducible first|intro _|apply aiA
    all_goals first
     |omega
     |(simp;done)
     |skip
    refine hK _ _ (i+1+1,v+1,.mem (qo (some O)+1) 4 [.bool (zV s (i+1))]) ⟨by simp only;omega,rfl⟩ (by simp only;omega) ?_;rw[qdl s (i+1)];simp only[zV];refine Wk.temps ?_
    (simp only[ze,List.foldl,go_sem,qg,qc,qa,qf];try (repeat' first|(with_reducible apply aiA)|(apply qh;omega)|(apply qe;rfl)|exact qi))
  ·have e:i=s.length:=by omega
   subst e;simp (disch:=omega) only[ze,List.foldl,eL,go_sem,qp,dvP,mdP]
   repeat' first
    |(apply qb;exact rvk;simp only[go_sem])
    |with_reducible first|intro _|apply aiA
   all_goals first
    |omega
    |skip
   have hrl:(qcu s).length=s.length:=by simp[qcu]
   unfold qc3;rw[ipo om];refine qsW (qcb s _) hrl (fun i c hc=> ?_) (fun c hc=> ?_)
   ·have hi:=(lgs.1 hc).1;rw[qcb]at hi;rw[qd0 hi];simp[qaf,hi]at hc;rw[hc]
   ·simp[qaf]at hc;obtain⟨x,_,rfl⟩:=hc;rfl
end HY
end
section
set_option linter.all false
set_option linter.unusedSimpArgs false
set_option linter.unusedVariables false
set_option linter.unusedSectionVars false
open Go Go.Proofs AF HY
namespace HY
theorem qdt(s:List UInt8){f i:Nat}(h:f≤i)(hi:i<s.length):(s.drop f).take (i+1-f)=(s.drop f).take (i-f)++ [ch s i]:=by
 rw[show i+1-f=(i-f)+1 by omega,List.take_add_one,List.getElem?_drop,show f+(i-f)=i by omega];simp[ch,gdqA,hi]
theorem qsN(s:List UInt8){i:Nat}(hi:i<s.length):(s.drop i).take (i+1-i)= [ch s i]:=by
 rw[qdt s (nlr _) hi,Nat.sub_self];rfl
def done(s:List UInt8)(D:List (List UInt8))(f i:Nat):Prop:=qcn s f i∧i≤s.length∧qgc s=D++(qan f ((s.drop f).take (i-f)) (s.drop i)).map (·.2)
theorem qiD{s:List UInt8}(h:0<s.length):done s [] 0 1:=by
 refine⟨qfx s,h,?_⟩;cases s with
 |nil=>simp at h
 |cons c r=>simp[qgc,zN]
end HY
end
section
set_option linter.all false
set_option linter.unusedSimpArgs false
set_option linter.unusedVariables false
set_option linter.unusedSectionVars false
open Go Go.Proofs AF HY
namespace HY
theorem qlt{s:List UInt8}: ∀(k:Nat) {f i:Nat},s.length-i=k→qcn s f i→i≤s.length→zW ((s.drop f).take (i-f))=zW [ch s f]→
  ((qan f ((s.drop f).take (i-f)) (s.drop i)).map (·.2)).any zW=(zW [ch s f]||(List.range' i (s.length-i)).any (qa4 s)):=by
 intro k
 induction k with
 |zero=>
  intro f i hk hc hi hb;have e:i=s.length:=by omega
  subst e;rw[List.drop_length,Nat.sub_self];simp[qan,hb]
 |succ k ih=>
  intro f i hk hc hi hb;have hi':i<s.length:=by omega
  rw[qc5 hc.1 hi'];rw[show s.length-i=(s.length-(i+1))+1 by omega,List.range'_succ,List.any_cons];have hr:=qco hc
  by_cases hg:kind (ch s i)=2∧kind (ch s f)=1
  ·rw[ipo hg];have hrt:zV s i=true:=by rw[hr];simp[hg]
   have hb2:zW ((s.drop f).take (i+1-f))=zW [ch s f]:=by
    rw[←hb];unfold zW;have e:ch ((s.drop f).take (i+1-f)) 0=ch ((s.drop f).take (i-f)) 0:=by
     have:=hc.1
     simp[ch,gdqA,List.getElem?_take,show 0<i-f by omega,show 0<i+1-f by omega]
    rw[e]
   rw[ih om (qmj hc hrt) hi' hb2]
   have:qa4 s i=false:=by unfold qa4;rw[hrt,hg.1];rfl
   rw[this,Bool.false_or]
  ·rw[ine hg];have hrf:zV s i=false:=by
    rw[hr];cases h2:decide (kind (ch s i)=2)<;>cases h3:decide (kind (ch s f)=1)<;>simp_all
   simp only[List.map_cons,List.any_cons,hb];have h1:(s.drop i).take (i+1-i)= [ch s i]:=qsN s hi';rw[ih om (qiV hc hrf) hi' (by rw[h1])]
   have:qa4 s i=zW [ch s i]:=by unfold qa4 zW;rw[hrf];simp[ch]
   rw[this]
theorem qpK(s:List UInt8):(qgc s).any zW=(List.range s.length).any (qa4 s):=by
 cases hs:s with
 |nil=>rfl
 |cons c r=>
  rw[←hs];have h0:0<s.length:=by rw[hs];simp
  have hd:=qiD h0;have h1:(s.drop 0).take (1-0)= [ch s 0]:=qsN s h0
  have:=qlt (s:=s) _ rfl hd.1 h0 (by rw[h1])
  rw[←lna ((qan 0 ((s.drop 0).take (1-0)) (s.drop 1)).map (·.2)),←hd.2.2]at this;rw[this,List.range_eq_range',show s.length=(s.length-1)+1 by omega,List.range'_succ,List.any_cons]
  have:qa4 s 0=zW [ch s 0]:=by unfold qa4 zW;simp[zV,ch]
  rw[this];simp
theorem qfk(s:List UInt8):zU s=if 65536<s.length then 4 else if (List.range s.length).any (qa4 s)=true then 11 else 0:=by unfold zU;rw[qpK]
theorem qa1{p:Nat→Bool}{n i:Nat}(hi:i<n)(h:p i=true):(List.range n).any p=true:=List.any_eq_true.2 ⟨i,by simpa using hi,h⟩
theorem qaC{p:Nat→Bool}{n:Nat}(h: ∀i,i<n→p i=false):(List.range n).any p=false:=by
 rw[List.any_eq_false];intro i hi;simp at hi;rw[h i hi];simp
theorem qFQ(s:List UInt8)(h:List AObj)(hs:s.length≤1000000000):ACalls Tryz.prog 93 [.str s] h (.int .i64 (zU s)) h:=by
 rw[qfk]
 by_cases hl:65536<s.length
 ·have hl':(65536<(s.length:Int))=True:=eqt om;rw[ipo hl];refine qE qzT (by simp) ?_;simp only[lco,lnl,Nat.reduceAdd,Nat.reduceSub,List.replicate,lca,lna,lan];simp (disch:=omega) only[qCn,hl',go_sem,qp,dvP,mdP]
  repeat' first
   |(apply qd;exact rvk;simp only[go_sem];exact qi)
 ·have hl':(65536<(s.length:Int))=False:=eqf om;rw[ine hl];refine qE qzT (by simp) ?_;simp only[lco,lnl,Nat.reduceAdd,Nat.reduceSub,List.replicate,lca,lna,lan];simp (disch:=omega) only[qCn,hl',go_sem,qp,dvP,mdP]
  repeat' first
   |(refine qH (t95 s _ hs) ?_ ?_;exact flk;simp (disch:=omega) only[hl',qc3,go_sem,qp,dvP,mdP])
  refine qu (T:=fun i:Nat=>ze 34 [(0,.str s),(3,qc3 (qcu s)),(4,.int .i64 i)]) (H:=fun _=>h) (inv:=fun i=>i≤s.length∧ ∀j,j<i→qa4 s j=false) (m:=fun i=>s.length-i) 0 ⟨om,om⟩ (Wk.temps ?_) ?_
  ·(simp only[qc3,ze,List.foldl,go_sem,qg,qc,qa,qf];try (repeat' first|(with_reducible apply aiA)|(apply qh;omega)|(apply qe;rfl)|exact qi))
  ·rintro i ⟨i1,i2⟩ K hK;have hrl:(qcu s).length=s.length:=by simp[qcu]
   by_cases hi:i<s.length
   ·have hg:=qd0 hi
    by_cases hb:qa4 s i=true
    ·rw[ipo (qa1 hi hb)];unfold qa4 at hb;simp (disch:=omega) only[ze,List.foldl,qc3,hrl,hg,ke,go_sem,qp,dvP,mdP]
     repeat' first
      |(refine qH (qdn _ _) ?_ ?_;exact flk;simp (disch:=omega) only[qc3,hrl,hg,ke,go_sem,qp,dvP,mdP])
      |(apply qd;exact rvk;simp only[go_sem];first|exact qi|apply qh)
      |with_reducible first|intro _|apply aiA
     all_goals try exact clz
     all_goals
      refine hK _ _ (i+1) ⟨om,?_⟩ om (Wk.temps ?_)
      ·exfalso;grind
      ·(simp only[qc3,hrl,ze,List.foldl,go_sem,qg,qc,qa,qf];try (repeat' first|(with_reducible apply aiA)|(apply qh;omega)|(apply qe;rfl)|exact qi))
    ·have hb':qa4 s i=false:=by simpa using hb
     unfold qa4 at hb;simp (disch:=omega) only[ze,List.foldl,qc3,hrl,hg,ke,go_sem,qp,dvP,mdP]
     repeat' first
      |(refine qH (qdn _ _) ?_ ?_;exact flk;simp (disch:=omega) only[qc3,hrl,hg,ke,go_sem,qp,dvP,mdP])
      |(apply qd;exact rvk;simp only[go_sem];apply qh)
      |with_reducible first|intro _|apply aiA
     all_goals try exact clz
     all_goals first
      |(exfalso;grind)
      |skip
     all_goals
      refine hK _ _ (i+1) ⟨om,fun j hj=> ?_⟩ om (Wk.temps ?_)
      ·by_cases e:j=i
       ·subst e;exact hb'
       ·exact i2 j om
      ·(simp only[qc3,hrl,ze,List.foldl,go_sem,qg,qc,qa,qf];try (repeat' first|(with_reducible apply aiA)|(apply qh;omega)|(apply qe;rfl)|exact qi))
   ·have e:i=s.length:=by omega
    subst e;rw[qaC i2];simp (disch:=omega) only[ze,List.foldl,go_sem,qp,dvP,mdP]
    repeat' first
     |(apply qd;exact rvk;simp only[go_sem];exact qi)
     |with_reducible first|intro _|apply aiA
    all_goals try exact clz
end HY
end
section
set_option linter.all false
set_option linter.unusedSimpArgs false
set_option linter.unusedVariables false
set_option linter.unusedSectionVars false
open Go Go.Proofs AF HY
namespace HY
theorem qiW(b:UInt8):0≤kind b∧kind b≤6:=by
 unfold kind qfC
 (repeat' split)<;>omega
theorem qwS(s:List UInt8)(p:UInt8→Bool):(List.range s.length).any (fun i=>p (ch s i))=s.any p:=by
 rw[Bool.eq_iff_iff,List.any_eq_true,List.any_eq_true];constructor
 ·rintro⟨i,hi,h⟩;simp at hi;refine⟨s[i],List.getElem_mem hi,?_⟩;simpa[ch,hi] using h
 ·rintro⟨x,hx,h⟩;obtain⟨i,hi,rfl⟩:=List.mem_iff_getElem.1 hx;exact⟨i,by simpa using hi,by simpa[ch,hi] using h⟩
def spc(c:UInt8):Bool:=decide (kind c=5)||decide (kind c=6)
theorem qbw(s:List UInt8):kE s=(decide (0<s.length)&&decide (s.length≤64)&&decide (zU s=0)&&(decide (kind (ch s 0)=1)||decide (kind (ch s 0)=3))&& !((List.range s.length).any fun i=>spc (ch s i))):=by
 rw[qwS];rfl
theorem t93(s:List UInt8)(h:List AObj)(hs:s.length≤1000000000):ACalls Tryz.prog 41 [.str s] h (.bool (kE s)) h:=by
 obtain⟨c,hc⟩: ∃c,c=zU s:=⟨_,rfl⟩
 have h118: ∀h:List AObj,ACalls Tryz.prog 93 [.str s] h (.int .i64 c) h:=fun h=>by rw[hc];exact qFQ s h hs
 rw[qbw,←hc]
 by_cases g0:0<s.length∧s.length≤64∧c=0∧(kind (ch s 0)=1∨kind (ch s 0)=3)
 ·obtain⟨g1,g2,g3,g4⟩:=g0;have e:(decide (0<s.length)&&decide (s.length≤64)&&decide (c=0)&&(decide (kind (ch s 0)=1)||decide (kind (ch s 0)=3)))=true:=by simp[g1,g2,g3,g4]
  rw[e,Bool.true_and];have k1:((s.length:Int)<1)=False:=eqf om;have k2:(64<(s.length:Int))=False:=eqf om;refine qE ql5 (by simp) ?_;simp only[lco,lnl,Nat.reduceAdd,Nat.reduceSub,List.replicate,lca,lna,lan];simp (disch:=omega) only[qwx,k1,k2,go_sem,qp,dvP,mdP]
  repeat' first
   |(refine qH (qdn _ _) ?_ ?_;exact flk;simp (disch:=omega) only[k1,k2,g3,ke,go_sem,qp,dvP,mdP])
   |(refine qO (fun e=>⟨?_,h118 _⟩) ?_;exact flk;simp (disch:=omega) only[k1,k2,g3,ke,go_sem,qp,dvP,mdP])
   |(apply qd;exact rvk;simp only[go_sem];apply qe)
   |with_reducible first|intro _|apply aiA
  all_goals try exact clz
  refine qu (T:=fun i:Nat=>ze 38 [(0,.str s),(4,.int .i64 i)]) (H:=fun _=>h) (inv:=fun i=>i≤s.length∧ ∀j,j<i→spc (ch s j)=false) (m:=fun i=>s.length-i) 0 ⟨om,om⟩ (Wk.temps ?_) ?_
  ·(simp only[ze,List.foldl,go_sem,qg,qc,qa,qf];try (repeat' first|(with_reducible apply aiA)|(apply qh;omega)|(apply qe;rfl)|exact qi))
  ·rintro i ⟨i1,i2⟩ K hK
   by_cases hi:i<s.length
   ·have hr:=qiW (ch s i);cases hb:spc (ch s i)with
    |true=>
     rw[qa1 hi hb];unfold spc at hb;have hk:(4<kind (ch s i))=True:=eqt (by grind);simp (disch:=omega) only[ze,List.foldl,ke,go_sem,qp,dvP,mdP]
     repeat' first
      |(refine qH (qdn _ _) ?_ ?_;exact flk;simp (disch:=omega) only[ke,hk,go_sem,qp,dvP,mdP])
      |(apply qd;exact rvk;simp only[go_sem];first|exact qi|apply qe)
      |with_reducible first|intro _|apply aiA
     all_goals try exact clz
    |false=>
     have hk:(4<kind (ch s i))=False:=eqf (by unfold spc at hb;grind);simp (disch:=omega) only[ze,List.foldl,ke,go_sem,qp,dvP,mdP]
     repeat' first
      |(refine qH (qdn _ _) ?_ ?_;exact flk;simp (disch:=omega) only[ke,hk,go_sem,qp,dvP,mdP])
      |(apply qd;exact rvk;simp only[go_sem];apply qe)
      |with_reducible first|intro _|apply aiA
     all_goals try exact clz
     refine hK _ _ (i+1) ⟨om,fun j hj=> ?_⟩ om (Wk.temps ?_)
     ·by_cases e:j=i
      ·subst e;exact hb
      ·exact i2 j om
     ·(simp only[ze,List.foldl,go_sem,qg,qc,qa,qf];try (repeat' first|(with_reducible apply aiA)|(apply qh;omega)|(apply qe;rfl)|exact qi))
   ·have e:i=s.length:=by omega
    subst e;rw[qaC i2];simp (disch:=omega) only[ze,List.foldl,go_sem,qp,dvP,mdP]
    repeat' first
     |(apply qd;exact rvk;simp only[go_sem];exact qi)
     |with_reducible first|intro _|apply aiA
    all_goals try exact clz
 ·have e:(decide (0<s.length)&&decide (s.length≤64)&&decide (c=0)&&(decide (kind (ch s 0)=1)||decide (kind (ch s 0)=3)))=false:=by
   rw[Bool.eq_false_iff];intro h;simp only[Bool.and_eq_true,Bool.or_eq_true,decide_eq_true_eq]at h;exact g0 ⟨h.1.1.1,h.1.1.2,h.1.2,h.2⟩
  rw[e,Bool.false_and]
  by_cases g1:0<s.length
  ·by_cases g2:s.length≤64
   ·have k1:((s.length:Int)<1)=False:=eqf om;have k2:(64<(s.length:Int))=False:=eqf om
    by_cases g3:c=0
    ·have g4: ¬kind (ch s 0)=1∧ ¬kind (ch s 0)=3:=by
      constructor
      ·intro h;exact g0 ⟨g1,g2,g3,.inl h⟩
      ·intro h;exact g0 ⟨g1,g2,g3,.inr h⟩
     have g5:=g4.1;have g6:=g4.2;refine qE ql5 (by simp) ?_;simp only[lco,lnl,Nat.reduceAdd,Nat.reduceSub,List.replicate,lca,lna,lan];simp (disch:=omega) only[qwx,k1,k2,go_sem,qp,dvP,mdP]
     repeat' first
      |(refine qH (qdn _ _) ?_ ?_;exact flk;simp (disch:=omega) only[k1,k2,g3,ke,g5,g6,go_sem,qp,dvP,mdP])
      |(refine qO (fun e=>⟨?_,h118 _⟩) ?_;exact flk;simp (disch:=omega) only[k1,k2,g3,ke,g5,g6,go_sem,qp,dvP,mdP])
      |(apply qd;exact rvk;simp only[go_sem];exact qi)
      |with_reducible apply aiA
     all_goals try exact clz
    ·refine qE ql5 (by simp) ?_;simp only[lco,lnl,Nat.reduceAdd,Nat.reduceSub,List.replicate,lca,lna,lan];simp (disch:=omega) only[qwx,k1,k2,go_sem,qp,dvP,mdP]
     repeat' first
      |(refine qO (fun e=>⟨?_,h118 _⟩) ?_;exact flk;simp (disch:=omega) only[k1,k2,g3,ke,go_sem,qp,dvP,mdP])
      |(apply qd;exact rvk;simp only[go_sem];exact qi)
   ·have k1:((s.length:Int)<1)=False:=eqf om;have k2:(64<(s.length:Int))=True:=eqt om;refine qE ql5 (by simp) ?_;simp only[lco,lnl,Nat.reduceAdd,Nat.reduceSub,List.replicate,lca,lna,lan];simp (disch:=omega) only[qwx,k1,k2,go_sem,qp,dvP,mdP]
    repeat' first
     |(refine qj ((.int .i64 0)) ?_;simp (disch:=omega) only[k1,k2,go_sem,qp,dvP,mdP])
     |(apply qd;exact rvk;simp only[go_sem];exact qi)
  ·have k1:((s.length:Int)<1)=True:=eqt om;refine qE ql5 (by simp) ?_;simp only[lco,lnl,Nat.reduceAdd,Nat.reduceSub,List.replicate,lca,lna,lan];simp (disch:=omega) only[qwx,k1,go_sem,qp,dvP,mdP]
   repeat' first
    |(refine qj ((.int .i64 0)) ?_;simp (disch:=omega) only[k1,go_sem,qp,dvP,mdP])
    |(apply qd;exact rvk;simp only[go_sem];exact qi)
end HY
end
section
open Go Go.Proofs AF HY
namespace LN
def ld(c:UInt8):Bool:=decide (kind c=1)||decide (kind c=3)
theorem t66(s:List UInt8)(h:List AObj)(hs:s.length≤1000000000):ACalls Tryz.prog 204 [.str s] h (.int .i64 ((s.countP ld:Nat):Int)) h:=by
 refine qE qy8 (by simp) ?_;simp only[lco,lnl,Nat.reduceAdd,Nat.reduceSub,List.replicate,lca,lna,lan];simp (disch:=omega) only[qxy,go_sem];refine qu (T:=fun i:Nat=>ze 25 [(0,.str s),(3,.int .i64 (((s.take i).countP ld:Nat):Int)),(7,.int .i64 s.length),(8,.int .i64 i)]) (H:=fun _=>h) (inv:=fun i=>i≤s.length) (m:=fun i=>s.length-i) 0 om (Wk.temps ?_) ?_
 ·(simp only[ze,List.foldl,go_sem,qg,qc,qa,qf];try (repeat' first|(with_reducible apply aiA)|(apply qh;omega)|(apply qe;rfl)|exact qi))
 ·rintro i i1 K hK
  by_cases hi:i<s.length
  ·obtain⟨c,hc⟩: ∃c,c=s.getD i 0:=⟨_,rfl⟩
   have e1:(s[i]?).getD 0=c:=by rw[hc,gdqA]
   have e2:s.take (i+1)=s.take i++ [c]:=by rw[List.take_add_one,hc,gdqA,zL hi];rfl
   have hb:=c.toNat_lt;have c92:=fun h=>qEJ (c.toNat:Int) h om om
   have hn:(s.take i).countP ld≤s.length:=Nat.le_trans List.countP_le_length (by simp;omega);obtain⟨n,hN⟩: ∃n,n=(s.take i).countP ld:=⟨_,rfl⟩
   rw[←hN]at hn ⊢;obtain⟨k,hk⟩: ∃k,k=qfC (c.toNat:Int):=⟨_,rfl⟩
   have hk':k=kind c:=hk;rw[←hk]at c92;have e3:(s.take (i+1)).countP ld=n+if ld c=true then 1 else 0:=by
    rw[e2,List.countP_append,←hN];simp[List.countP_cons]
   by_cases g1:k=1
   ·have k1:(k=1)=True:=eqt g1;have g:ld c=true:=by unfold ld;rw[←hk',g1];rfl
    rw[ipo g]at e3;simp (disch:=omega) only[ze,List.foldl,e1,go_sem]
    repeat' first
     |(refine qH (c92 _) ?_ ?_;exact flk;simp (disch:=omega) only[k1,go_sem,qp])
     |(apply qd;exact rvk;simp only[go_sem];apply qh)
     |with_reducible first|intro _|apply aiA
    all_goals try exact clz
    refine hK _ _ (i+1) om om (Wk.temps ?_);rw[e3]
    (simp only[ze,List.foldl,go_sem,qg,qc,qa,qf];try (repeat' first|(with_reducible apply aiA)|(apply qh;omega)|(apply qe;rfl)|exact qi))
   ·have k1:(k=1)=False:=eqf g1
    by_cases g2:k=3
    ·have k2:(k=3)=True:=eqt g2;have g:ld c=true:=by unfold ld;rw[←hk',g2];rfl
     rw[ipo g]at e3;simp (disch:=omega) only[ze,List.foldl,e1,go_sem]
     repeat' first
      |(refine qH (c92 _) ?_ ?_;exact flk;simp (disch:=omega) only[k1,k2,go_sem,qp])
      |(apply qd;exact rvk;simp only[go_sem];apply qh)
      |with_reducible first|intro _|apply aiA
     all_goals try exact clz
     refine hK _ _ (i+1) om om (Wk.temps ?_);rw[e3]
     (simp only[ze,List.foldl,go_sem,qg,qc,qa,qf];try (repeat' first|(with_reducible apply aiA)|(apply qh;omega)|(apply qe;rfl)|exact qi))
    ·have k2:(k=3)=False:=eqf g2;have g: ¬ld c=true:=by unfold ld;rw[←hk',dqf g1,dqf g2];simp
     rw[ine g]at e3;simp (disch:=omega) only[ze,List.foldl,e1,go_sem]
     repeat' first
      |(refine qH (c92 _) ?_ ?_;exact flk;simp (disch:=omega) only[k1,k2,go_sem,qp])
      |(apply qd;exact rvk;simp only[go_sem];apply qh)
      |with_reducible first|intro _|apply aiA
     all_goals try exact clz
     refine hK _ _ (i+1) om om (Wk.temps ?_);rw[e3,Nat.add_zero]
     (simp only[ze,List.foldl,go_sem,qg,qc,qa,qf];try (repeat' first|(with_reducible apply aiA)|(apply qh;omega)|(apply qe;rfl)|exact qi))
  ·have e:i=s.length:=by omega
   subst e;rw[List.take_length];simp (disch:=omega) only[ze,List.foldl,go_sem]
   repeat' first
    |(apply qd;exact rvk;simp only[go_sem];exact qi)
    |with_reducible first|intro _|apply aiA
   all_goals try exact clz
def qac(s:List UInt8):Bool:=decide (s≠ [])&&(decide (s.length≤16)&&decide (s.countP ld=s.length))
theorem t44(s:List UInt8)(h:List AObj)(hs:s.length≤1000000000):ACalls Tryz.prog 158 [.str s] h (.bool (qac s)) h:=by
 have c66:=fun h=>t66 s h hs
 unfold qac
 by_cases g1:s= []
 ·have k1:(s= [])=True:=eqt g1;rw[dqf (show¬s≠ []from fun hc=>hc g1)];refine qE qhv (by simp) ?_;simp only[lco,lnl,Nat.reduceAdd,Nat.reduceSub,List.replicate,lca,lna,lan];simp (disch:=omega) only[qk0,k1,go_sem]
  repeat' first
   |(refine qj ((.int .i64 0)) ?_;simp (disch:=omega) only[go_sem])
   |(apply qd;exact rvk;simp only[go_sem];exact qi)
   |with_reducible first|intro _|apply aiA
  all_goals try exact clz
 ·have k1:(s= [])=False:=eqf g1;rw[dqt (show s≠ []from g1)]
  by_cases g2:s.length≤16
  ·have k2:((s.length:Int)≤16)=True:=eqt om;rw[dqt g2]
   by_cases g3:s.countP ld=s.length
   ·have k3:(((s.countP ld:Nat):Int)=s.length)=True:=eqt om;rw[dqt g3];refine qE qhv (by simp) ?_;simp only[lco,lnl,Nat.reduceAdd,Nat.reduceSub,List.replicate,lca,lna,lan];simp (disch:=omega) only[qk0,k1,k2,go_sem]
    repeat' first
     |(refine qO (fun e=>⟨?_,c66 _⟩) ?_;exact flk;simp (disch:=omega) only[k3,go_sem])
     |(apply qd;exact rvk;simp only[go_sem];exact qi)
   ·have k3:(((s.countP ld:Nat):Int)=s.length)=False:=eqf om;rw[dqf g3];refine qE qhv (by simp) ?_;simp only[lco,lnl,Nat.reduceAdd,Nat.reduceSub,List.replicate,lca,lna,lan];simp (disch:=omega) only[qk0,k1,k2,go_sem]
    repeat' first
     |(refine qO (fun e=>⟨?_,c66 _⟩) ?_;exact flk;simp (disch:=omega) only[k3,go_sem])
     |(apply qd;exact rvk;simp only[go_sem];exact qi)
  ·have k2:((s.length:Int)≤16)=False:=eqf om;rw[dqf g2];refine qE qhv (by simp) ?_;simp only[lco,lnl,Nat.reduceAdd,Nat.reduceSub,List.replicate,lca,lna,lan];simp (disch:=omega) only[qk0,k1,k2,go_sem]
   repeat' first
    |(refine qj ((.int .i64 0)) ?_;simp (disch:=omega) only[go_sem])
    |(apply qd;exact rvk;simp only[go_sem];exact qi)
theorem t77(s:List UInt8)(h:List AObj)(hs:s.length≤1000000000):ACalls Tryz.prog 180 [.str s] h (.int .i64 ((s.countP ld:Nat):Int)) h:=by
 refine qE qy4 (by simp) ?_;simp only[lco,lnl,Nat.reduceAdd,Nat.reduceSub,List.replicate,lca,lna,lan];simp (disch:=omega) only[qxu,go_sem];refine qu (T:=fun i:Nat=>ze 25 [(0,.str s),(3,.int .i64 (((s.take i).countP ld:Nat):Int)),(4,.int .i64 i)]) (H:=fun _=>h) (inv:=fun i=>i≤s.length) (m:=fun i=>s.length-i) 0 om (Wk.temps ?_) ?_
 ·(simp only[ze,List.foldl,go_sem,qg,qc,qa,qf];try (repeat' first|(with_reducible apply aiA)|(apply qh;omega)|(apply qe;rfl)|exact qi))
 ·rintro i i1 K hK
  by_cases hi:i<s.length
  ·obtain⟨c,hc⟩: ∃c,c=s.getD i 0:=⟨_,rfl⟩
   have e1:(s[i]?).getD 0=c:=by rw[hc,gdqA]
   have e2:s.take (i+1)=s.take i++ [c]:=by rw[List.take_add_one,hc,gdqA,zL hi];rfl
   have c55:=fun h=>qEL (c.toNat:Int) h
   have hn:(s.take i).countP ld≤s.length:=Nat.le_trans List.countP_le_length (by simp;omega);obtain⟨n,hN⟩: ∃n,n=(s.take i).countP ld:=⟨_,rfl⟩
   rw[←hN]at hn ⊢;obtain⟨k,hk⟩: ∃k,k=qfC (c.toNat:Int):=⟨_,rfl⟩
   have hk':k=kind c:=hk;rw[←hk]at c55;have e3:(s.take (i+1)).countP ld=n+if ld c=true then 1 else 0:=by
    rw[e2,List.countP_append,←hN];simp[List.countP_cons]
   have q0:((i:Int)<s.length)=True:=eqt om
   by_cases g1:k=1
   ·have k1:(k=1)=True:=eqt g1;have g:ld c=true:=by unfold ld;rw[←hk',g1];rfl
    rw[ipo g]at e3;simp (disch:=omega) only[ze,List.foldl,e1,q0,go_sem]
    repeat' first
     |(refine qH (c55 _) ?_ ?_;exact flk;simp (disch:=omega) only[k1,go_sem,qp])
     |with_reducible apply aiA
    all_goals try exact clz
    refine hK _ _ (i+1) om om (Wk.temps ?_);rw[e3]
    (simp only[ze,List.foldl,go_sem,qg,qc,qa,qf];try (repeat' first|(with_reducible apply aiA)|(apply qh;omega)|(apply qe;rfl)|exact qi))
   ·have k1:(k=1)=False:=eqf g1
    by_cases g2:k=3
    ·have k2:(k=3)=True:=eqt g2;have g:ld c=true:=by unfold ld;rw[←hk',g2];rfl
     rw[ipo g]at e3;simp (disch:=omega) only[ze,List.foldl,e1,q0,go_sem]
     repeat' first
      |(refine qH (c55 _) ?_ ?_;exact flk;simp (disch:=omega) only[k1,k2,go_sem,qp])
      |with_reducible apply aiA
     all_goals try exact clz
     refine hK _ _ (i+1) om om (Wk.temps ?_);rw[e3]
     (simp only[ze,List.foldl,go_sem,qg,qc,qa,qf];try (repeat' first|(with_reducible apply aiA)|(apply qh;omega)|(apply qe;rfl)|exact qi))
    ·have k2:(k=3)=False:=eqf g2;have g:ld c=false:=by unfold ld;rw[←hk',dqf g1,dqf g2];rfl
     rw[ine (by rw[g];simp)]at e3;simp (disch:=omega) only[ze,List.foldl,e1,q0,go_sem]
     repeat' first
      |(refine qH (c55 _) ?_ ?_;exact flk;simp (disch:=omega) only[k1,k2,go_sem,qp])
      |with_reducible apply aiA
     all_goals try exact clz
     refine hK _ _ (i+1) om om (Wk.temps ?_);rw[e3]
     (simp only[ze,List.foldl,go_sem,qg,qc,qa,qf];try (repeat' first|(with_reducible apply aiA)|(apply qh;omega)|(apply qe;rfl)|exact qi))
  ·have e:i=s.length:=by omega
   subst e;rw[List.take_length];have q0:((s.length:Int)<s.length)=False:=eqf om;simp (disch:=omega) only[ze,List.foldl,q0,go_sem]
   repeat' first
    |(apply qd;exact rvk;simp only[go_sem];exact qi)
theorem qmF{s:List UInt8}(h1:s≠ [])(h2:s.length≤16)(h3:s.countP ld=s.length):kE s=true:=by
 have hall: ∀c∈s,ld c=true:=List.countP_eq_length.1 h3;have hch: ∀i,i<s.length→kind (ch s i)=1∨kind (ch s i)=3:=by
  intro i hi;have hm:ch s i∈s:=by
   have e:ch s i=s[i]:=by simp[ch,hi]
   rw[e];exact List.getElem_mem hi
  have:=hall _ hm
  unfold ld at this;simpa using this
 have hp:0<s.length:=List.length_pos_iff.2 h1;have hc:zU s=0:=by
  rw[qfk,ine om,ine];rw[List.any_eq_true];rintro⟨i,hi,hb⟩
  have:=hch i (List.mem_range.1 hi)
  unfold qa4 at hb;rcases this with h|h<;>rw[h]at hb<;>simp at hb
 rw[qbw,dqt hp,dqt (show s.length≤64 by omega),dqt hc];have h0:=hch 0 hp;have e0:(decide (kind (ch s 0)=1)||decide (kind (ch s 0)=3))=true:=by simpa using h0
 rw[e0];have ea:((List.range s.length).any fun i=>spc (ch s i))=false:=by
  rw[List.any_eq_false];intro i hi
  have:=hch i (List.mem_range.1 hi)
  unfold spc;rcases this with h|h<;>rw[h]<;>decide
 rw[ea];rfl
theorem t53(s:List UInt8)(h:List AObj)(hs:s.length≤1000000000):ACalls Tryz.prog 136 [.str s] h (.bool (qac s)) h:=by
 have c76:=fun h=>t93 s h hs
 have c77:=fun h=>t77 s h hs
 unfold qac
 by_cases g2:s.length≤16
 ·have k2:((s.length:Int)≤16)=True:=eqt om;rw[dqt g2,Bool.true_and]
  by_cases g3:s.countP ld=s.length
  ·have k3:((s.countP ld:Int)=s.length)=True:=eqt om;rw[dqt g3,Bool.and_true]
   by_cases g1:s= []
   ·rw[dqf (fun hc=>hc g1)];have hw:kE s=false:=by subst g1;rw[qbw];rfl
    rw[hw]at c76;refine qE qfs (by simp) ?_;simp only[lco,lnl,Nat.reduceAdd,Nat.reduceSub,List.replicate,lca,lna,lan];simp (disch:=omega) only[qir,k2,go_sem]
    repeat' first
     |(refine qj ((.int .i64 0)) ?_;simp (disch:=omega) only[go_sem])
     |(refine qO (fun e=>⟨?_,c76 _⟩) ?_;exact flk;simp (disch:=omega) only[go_sem])
     |(apply qd;exact rvk;simp only[go_sem];exact qi)
   ·rw[dqt g1];rw[qmF g1 g2 g3]at c76;refine qE qfs (by simp) ?_;simp only[lco,lnl,Nat.reduceAdd,Nat.reduceSub,List.replicate,lca,lna,lan];simp (disch:=omega) only[qir,k2,go_sem]
    repeat' first
     |((first|refine qO (fun e=>⟨?_,c76 _⟩) ?_|refine qO (fun e=>⟨?_,c77 _⟩) ?_);exact flk;simp (disch:=omega) only[k3,go_sem])
     |(apply qd;exact rvk;simp only[go_sem];exact qi)
  ·have k3:((s.countP ld:Int)=s.length)=False:=eqf om;rw[dqf g3,Bool.and_false];cases hw:kE s with
   |false=>
    rw[hw]at c76;refine qE qfs (by simp) ?_;simp only[lco,lnl,Nat.reduceAdd,Nat.reduceSub,List.replicate,lca,lna,lan];simp (disch:=omega) only[qir,k2,go_sem]
    repeat' first
     |(refine qj ((.int .i64 0)) ?_;simp (disch:=omega) only[go_sem])
     |(refine qO (fun e=>⟨?_,c76 _⟩) ?_;exact flk;simp (disch:=omega) only[go_sem])
     |(apply qd;exact rvk;simp only[go_sem];exact qi)
   |true=>
    rw[hw]at c76;refine qE qfs (by simp) ?_;simp only[lco,lnl,Nat.reduceAdd,Nat.reduceSub,List.replicate,lca,lna,lan];simp (disch:=omega) only[qir,k2,go_sem]
    repeat' first
     |((first|refine qO (fun e=>⟨?_,c76 _⟩) ?_|refine qO (fun e=>⟨?_,c77 _⟩) ?_);exact flk;simp (disch:=omega) only[k3,go_sem])
     |(apply qd;exact rvk;simp only[go_sem];exact qi)
 ·have k2:((s.length:Int)≤16)=False:=eqf om;rw[dqf g2,Bool.false_and,Bool.and_false];refine qE qfs (by simp) ?_;simp only[lco,lnl,Nat.reduceAdd,Nat.reduceSub,List.replicate,lca,lna,lan];simp (disch:=omega) only[qir,k2,go_sem]
  repeat' first
   |(refine qj ((.bool false)) ?_;simp (disch:=omega) only[go_sem])
   |(apply qd;exact rvk;simp only[go_sem];exact qi)
end LN
end
section
open Go Go.Proofs AF HY
namespace HY
theorem qEK(s:List UInt8)(f a:Nat)(h:List AObj)(hf:f<s.length):ACalls Tryz.prog 246 [.str s,.int .i64 f,.int .i64 a] h (.bool (decide (kind (ch s f)=1)&&decide (f<a))) h:=by
 refine qE qzq (by simp) ?_;simp only[lco,lnl,Nat.reduceAdd,Nat.reduceSub,List.replicate,lca,lna,lan];simp (disch:=omega) only[qxN,ke,go_sem]
 repeat' first
  |(refine qH (qcE _ _) ?_ ?_;exact flk;simp (disch:=omega) only[go_sem])
  |(apply qd;exact rvk;simp only[go_sem];apply qe)
  |with_reducible apply aiA
 all_goals first
  |omega
  |(congr 1;exact decide_eq_decide.2 om)
  |skip
theorem qDi(s:List UInt8)(hs:s.length≤1000000000):qoX Tryz.prog 245 [.ip [.str s]] ((zN s).map fun x=> [.int .i64 (x.1:Int),.str x.2]):=by
 intro h ts L S E hS hE body start hts;refine qbX qzp (by simp) ?_;simp only[lco,lnl,Nat.reduceAdd,Nat.reduceSub,List.replicate,lca,lna,lan];simp (disch:=omega) only[qxM,go_sem]
 all_goals first
  |omega
  |skip
 refine qu (T:=fun i:Nat×Nat×Nat×List AObj=>ze 37 [(0,.yld h.length),(1,.ip [.str s]),(3,.int .i64 i.1),(4,.int .i64 i.2.1)]) (H:=fun i=>i.2.2.2++ [.lp .ready ts L])
  (inv:=fun i=>S i.2.2.1 i.2.2.2∧((i.2.1≤s.length∧i.1<i.2.1∧(zN s).drop i.2.2.1=qan i.1 ((s.drop i.1).take (i.2.1-i.1)) (s.drop i.2.1))∨(s.length<i.2.1∧i.2.1≤s.length+1∧i.2.2.1=(zN s).length))) (m:=fun i=>s.length+1-i.2.1) (0,1,0,h) ⟨start,?_⟩ (Wk.temps ?_) ?_
 ·simp only;cases s with
  |nil=>right;simp[zN]
  |cons c r=>left;simp[zN]
 ·(simp only[ze,List.foldl,go_sem,qg,qc,qf];try (repeat' first|(with_reducible apply aiA)|(apply qh;omega)|(apply qe;rfl)|exact qi))
 ·rintro⟨f,i,j,hh⟩ ⟨i1,i2⟩ K hK;simp only at i1 i2 hK;obtain⟨hlen,hlow⟩:=hS _ _ i1;rcases i2 with⟨g1,g2,g3⟩|⟨g1,g2,rfl⟩
  ·have hjl:j<(zN s).length:=by
    have:(zN s).drop j≠ []:=by rw[g3];exact qpJ _ _ _
    by_cases hj:j<(zN s).length
    ·exact hj
    ·exact absurd (List.drop_of_length_le om) this
   by_cases hk:i<s.length∧kind (ch s i)=2∧kind (ch s f)=1
   ·have hst:=qc5 g2 hk.1;rw[ipo hk.2]at hst;simp (disch:=omega) only[ze,List.foldl,ke,go_sem]
    repeat' first
     |((first|refine qO (fun e=>⟨?_,qcE _ _⟩) ?_|refine qO (fun e=>⟨?_,qEK s f i _ om⟩) ?_);exact flk;simp (disch:=omega) only[hk.2.1,hk.2.2,go_sem,qp])
     |with_reducible first|intro _|apply aiA
    all_goals first
     |omega
     |skip
    refine hK _ _ (f,i+1,j,hh) ⟨i1,.inl ⟨by simp only;omega,by simp only;omega,by rw[g3,hst]⟩⟩ (by simp only;omega) (Wk.temps ?_)
    (simp only[ze,List.foldl,go_sem,qg,qc,qa,qf];try (repeat' first|(with_reducible apply aiA)|(apply qh;omega)|(apply qe;rfl)|exact qi))
   ·obtain⟨rest,hrest,hr1⟩: ∃rest,(zN s).drop j=(f,(s.drop f).take (i-f))::rest∧(if i<s.length then rest=qan i ((s.drop i).take (i+1-i)) (s.drop (i+1)) else rest= []):=by
     by_cases hi:i<s.length
     ·have hst:=qc5 g2 hi;rw[ine (fun h=>hk ⟨hi,h⟩)]at hst;exact⟨_,g3.trans hst,by rw[ipo hi]⟩
     ·refine⟨[],?_,by rw[ine hi]⟩;rw[g3,show s.drop i= []from List.drop_of_length_le om];rfl
    rw[List.drop_eq_getElem_cons hjl]at hrest;obtain⟨hget,hdrop⟩:=List.cons.inj hrest;have hb:=body j hh [] (by simpa using hjl) i1;rw[List.getElem_map,hget]at hb;simp only at hb;have hfit:(i:Int)-f=((i-f:Nat):Int):=by omega
    simp (disch:=omega) only[ze,List.foldl,ke,go_sem]
    repeat' first
     |((first|refine qO (fun e=>⟨?_,qcE _ _⟩) ?_|refine qO (fun e=>⟨?_,qEK s f i _ om⟩) ?_);exact flk;simp (disch:=omega) only[go_sem,qp])
     |with_reducible first|intro _|apply aiA
    all_goals first
     |omega
     |exact⟨.ready,ts,L,kR hlen⟩
     |skip
    refine kk.mono ?_ hb;rintro v h' ⟨hh',⟨rfl,hn,rfl⟩|⟨st,rfl,hs',rfl⟩⟩
    ·simp (disch:=omega) only[go_sem,qp]
     all_goals first
      |omega
      |(rename_i hx;revert hx;simp;done)
      |skip
     by_cases hi:i<s.length
     ·rw[ipo hi]at hr1;refine hK _ _ (i,i+1,j+1,hh') ⟨hn,.inl ⟨by simp only;omega,by simp only;omega,by simp only;rw[hdrop,hr1]⟩⟩ (by simp only;omega) (Wk.temps ?_)
      (simp only[ze,List.foldl,go_sem,qg,qc,qa,qf];try (repeat' first|(with_reducible apply aiA)|(apply qh;omega)|(apply qe;rfl)|exact qi))
     ·rw[ine hi]at hr1;refine hK _ _ (i,i+1,j+1,hh') ⟨hn,.inr ⟨by simp only;omega,by simp only;omega,?_⟩⟩ (by simp only;omega) (Wk.temps ?_)
      ·have:((zN s).drop (j+1)).length=0:=by rw[hdrop,hr1];rfl
       rw[List.length_drop]at this;simp only;omega
      ·(simp only[ze,List.foldl,go_sem,qg,qc,qa,qf];try (repeat' first|(with_reducible apply aiA)|(apply qh;omega)|(apply qe;rfl)|exact qi))
    ·simp (disch:=omega) only[go_sem,qp];obtain⟨r1,r2⟩:=(hE _ _ hs').ret (L:=L) st hts;exact qhy trivial r1 r2 ⟨_,.inr ⟨st,hs',rfl⟩⟩ (qi)
  ·simp (disch:=omega) only[ze,List.foldl,go_sem]
   repeat' first
    |with_reducible first|intro _|apply aiA
   all_goals first
    |omega
    |skip
   obtain⟨r1,r2⟩:=(hS _ _ i1).ret (L:=L) .ready hts;exact jC trivial r1 r2 ⟨hh,.inl ⟨by simpa using i1,rfl⟩⟩ (qi)
def qls(s:List UInt8):AV:= .fn (.func 245) [] [.ip [.str s]]
def qfl(s:List UInt8):List (List AV):=(zN s).map fun x=> [.int .i64 (x.1:Int),.str x.2]
theorem qfm(s:List UInt8):(qfl s).length=(qgc s).length:=by simp[qfl,qgc]
theorem qlv(s:List UInt8){i:Nat}(hi:i<(qfl s).length): ∃n:Nat,(qfl s)[i]= [.int .i64 (n:Int),.str ((qgc s).getD i [])]:=by
 have h1:i<(zN s).length:=by simpa[qfl] using hi
 refine⟨((zN s)[i]).1,?_⟩;simp[qfl,qgc,gdqA,h1]
theorem t91(s:List UInt8)(h:List AObj):ACalls Tryz.prog 217 [.str s] h (qls s) h:=by
 refine qE qzf (by simp) ?_;simp only[lco,lnl,Nat.reduceAdd,Nat.reduceSub,List.replicate,lca,lna];simp (disch:=omega) only[qxD,go_sem]
 repeat' first
  |(apply qb;exact rvk;simp only[go_sem];exact qi)
theorem qiJ(s:List UInt8):(qls s).flag=true:=rfl
theorem qgT(s:List UInt8):(qls s).strip=qls s:=rfl
attribute [go_sem] qiJ qgT
theorem _root_.AF.LowI.app{h a b:List AObj}(e:b.length=a.length)(hb: ∀o∈b,o∈a∨(lowO (h.length+a.length) o∧lowO (h.length+a.length+1) o)):LowI (h++a) (h++b):=by
 refine⟨by simp[e],fun o ho=> ?_⟩;rw[lap];rcases List.mem_append.1 ho with ho|ho
 ·exact .inl (List.mem_append_left _ ho)
 ·rcases hb o ho with h1|h1
  ·exact .inl (List.mem_append_right _ h1)
  ·exact .inr h1
theorem qoi(l:List (List UInt8)){i:Nat}(h:i<l.length):l.take (i+1)=l.take i++ [l.getD i []]:=by
 rw[List.take_add_one,zL h];simp[gdqA,h]
theorem qd9{l:List (List UInt8)}{p:List UInt8→Bool}{i:Nat}(h:i<l.length):(l.take (i+1)).any p=((l.take i).any p||p (l.getD i [])):=by
 rw[qoi l h,List.any_append];simp
theorem qwR{l:List (List UInt8)}{p:List UInt8→Bool}{i:Nat}(h:i<l.length)(hp:p (l.getD i [])=true):l.any p=true:=by
 rw[List.any_eq_true];refine⟨l.getD i [],?_,hp⟩;rw[gdqA,zL h];exact List.getElem_mem h
theorem qtS{s:List UInt8}{i:Nat}(h:i<(qgc s).length):0<((qgc s).getD i []).length:=by
 apply List.length_pos_iff.2;apply qtT (s:=s);rw[gdqA,zL h];exact List.getElem_mem h
set_option maxHeartbeats 4000000 in
theorem qDI(s:List UInt8)(h:List AObj)(hs:s.length≤1000000000):ACalls Tryz.prog 172 [.str s] h (.int .i64 (zU s)) h:=by
 have hit:=qDi s hs;unfold zU
 by_cases hl:65536<s.length
 ·have hl':(65536<(s.length:Int))=True:=eqt om;rw[ipo hl];refine qE qso (by simp) ?_;simp only[lco,lnl,Nat.reduceAdd,Nat.reduceSub,List.replicate,lca,lna];simp (disch:=omega) only[qtq,hl',go_sem]
  repeat' first
   |(apply qb;exact rvk;simp only[go_sem];exact qi)
  all_goals trace_state
 ·have hl':(65536<(s.length:Int))=False:=eqf om;rw[ine hl];refine qE qso (by simp) ?_;simp only[lco,lnl,Nat.reduceAdd,Nat.reduceSub,List.replicate,lca,lna];simp (disch:=omega) only[qtq,hl',go_sem]
  repeat' first
   |(refine qH (t91 s _) ?_ ?_;exact flk;simp (disch:=omega) only[go_sem])
  refine qi8 (xs:=qfl s) hit (by intro a ha;simp[qfl]at ha;obtain⟨_,_,_,rfl⟩:=ha;rfl)
   (S:=fun i hh=>hh=h++ [.mem 1 33 [.int .i64 0]]∧((qgc s).take i).any zW=false)
   (E:=fun e hh=>e= .ret∧hh=h++ [.mem 1 33 [.int .i64 11]]∧(qgc s).any zW=true) ?_ ?_ ?_ ?_ ?_ ?_ ?_
  ·rintro i hh ⟨rfl,_⟩;exact LowI.refl _
  ·rintro e hh ⟨_,rfl,_⟩;refine LowI.app rfl (fun o ho=> ?_);simp only[List.mem_cons,List.not_mem_nil,or_false]at ho;subst ho;right;constructor<;>(intro c hc;simp at hc;subst hc;rfl)
  ·exact⟨rfl,by simp⟩
  ·simp[qV,qV.lowVs,qls]
   try omega
  ·rintro i hh tl L hi ⟨rfl,hno⟩ hlen;obtain⟨n,hx⟩:=qlv s hi;rw[qfm]at hi;rw[hx];have hnx:=qd9 (p:=zW) hi;rw[hno,Bool.false_or]at hnx;have hat:=qwR (p:=zW) hi;obtain⟨c,hc⟩: ∃c,c=(qgc s).getD i []:=⟨_,rfl⟩
   have hcl:=qtS hi;rw[←hc]at hcl hnx hat ⊢;simp only[kJ];simp (disch:=omega) only[List.append_assoc,eq_self,ke,go_sem]
   repeat' first
    |(refine qH (qcE _ _) ?_ ?_;exact flk;simp (disch:=omega) only[eq_self,go_sem])
    |with_reducible first|intro _|apply aiA
   all_goals try exact clz
   ·rename_i hx;exact⟨h++ [.mem 1 33 [.int .i64 11]],by simp,by simp,by simp,hat (by unfold zW;simpa using hx)⟩
   ·rename_i hx;exact⟨h++ [.mem 1 33 [.int .i64 0]],by simp,by simp,by simp,by rw[hnx];unfold zW;simpa using hx⟩
  ·rintro hh ⟨rfl,hno⟩;rw[qfm,List.take_length]at hno;rw[hno];simp (disch:=omega) only[go_sem]
   repeat' first
    |(apply qb;exact rvk;simp only[go_sem];exact qi)
   all_goals trace_state
  ·rintro e hh ⟨rfl,rfl,hb⟩;rw[hb];show Ex.inBlock 0 _ .ret _ _;simp (disch:=omega) only[go_sem]
   repeat' first
    |(apply qb;exact rvk;simp only[go_sem];exact qi)
   all_goals trace_state
end HY
end
