import Derived.KernelRfl
import Derived.Test.YtmieflnoheifbaaGreatDoorK7
import Derived.Test.YtmieflnoheifbaaGreatDoorK5
import Derived.Test.YtmieflnoheifbaaGreatDoorK3
import Derived.Test.YtmieflnoheifbaaGreatDoorProg
import Derived.Test.YtmieflnoheifbaaGreatDoorK4
set_option linter.all false
set_option maxRecDepth 100000
section
namespace AF
open Go
theorem fi{P:Program}{f:Nat}(fn:Func)(js:List Tmp)(imp:List FuncId)(wks:List Nat){nt ns:Nat}{rs:List RV}{c:C}(h1:P.funcs[f]? =some fn:=by kernel_rfl)
  (h2 : (fn.body.isSome && (fn.name != "runtime.NumGoroutine")) = true := by kernel_rfl) (h3 : (fn.ntmps, js.length) = (nt, ns) := by kernel_rfl) (h4 : (qhJ P fn.results.toList, cv P js imp wks (fn.body.getD .skip)) = (some rs, some c) := by kernel_rfl) : qG P f nt ns rs c := by
 cases hb:fn.body with
 |none=>rw[hb]at h2;cases h2
 |some body=>
  rw[hb]at h2 h4;cases h3;simp only[Prod.mk.injEq]at h4;exact⟨fn,body,js,imp,wks,h1,hb,by simpa using h2,rfl,rfl,h4.1,h4.2⟩
def qbE(p:Nat->Bool):Nat->Nat->Int
 |0,_=> -1
 |k+1,i=>if p i=true then i else qbE p k (i+1)
theorem qeH{p:Nat->Bool}{n i:Nat}(hi:i<=n)(h: ∀j,j<i->p j=false):qbE p n 0=qbE p (n-i) i:=by
 induction i with
 |zero=>rfl
 |succ i ih=>
  rw[ih om (λj hj=>h j om),show n-i=(n-(i+1))+1 by omega];simp only[qbE,h i om,Bool.false_eq_true,if_false]
theorem kW{p:Nat->Bool}{n i:Nat}(hi:i<n)(h: ∀j,j<i->p j=false)(hp:p i=true):qbE p n 0=i:=by
 rw[qeH om h,show n-i=(n-i-1)+1 by omega];unfold qbE;rw[hp];rfl
theorem f0{p:Nat->Bool}{n:Nat}(h: ∀j,j<n->p j=false):qbE p n 0= -1:=by
 rw[qeH (nlr n) h,Nat.sub_self];rfl
theorem zE(p:Nat->Bool)(n:Nat):(∃i,i<n∧p i=true∧(∀j,j<i->p j=false)∧qbE p n 0=i)∨((∀j,j<n->p j=false)∧qbE p n 0= -1):=by
 induction n with
 |zero=>exact .inr ⟨λj hj=>by omega,rfl⟩
 |succ n ih=>
  by_cases h: ∃i,i<n+1∧p i=true
  ·rcases ih with⟨i,h1,h2,h3,h4⟩|⟨h1,h2⟩
   ·exact .inl ⟨i,om,h2,h3,kW om h3 h2⟩
   ·obtain⟨i,h3,h4⟩:=h;have e:i=n:=by
     by_cases e:i<n
     ·rw[h1 i e]at h4;cases h4
     ·omega
    subst e;exact .inl ⟨i,h3,h4,h1,kW h3 h1 h4⟩
  ·refine .inr ?_;have h': ∀j,j<n+1->p j=false:=λj hj=>by
    cases e:p j with
    |false=>rfl
    |true=>exact absurd ⟨j,hj,e⟩ h
   exact⟨h',f0 h'⟩
def jC(p:Nat->Bool)(n:Nat):Bool:=decide (0<=qbE p n 0)
theorem qN{p:Nat->Bool}{n:Nat}:jC p n=true↔ ∃i,i<n∧p i=true:=by
 unfold jC;rw[decide_eq_true_iff];rcases zE p n with⟨i,h1,h2,_,h4⟩|⟨h1,h2⟩
 ·rw[h4];exact⟨λ_=>⟨i,h1,h2⟩,λ_=>by omega⟩
 ·rw[h2];exact⟨λh=>by omega,λ⟨i,h3,h4⟩=>by rw[h1 i h3]at h4;cases h4⟩
theorem qp{p:Nat->Bool}{n:Nat}:jC p n=false↔ ∀i,i<n->p i=false:=by
 constructor
 ·intro h i hi;cases e:p i with
  |false=>rfl
  |true=>rw[qN.2 ⟨i,hi,e⟩]at h;cases h
 ·intro h;cases e:jC p n with
  |false=>rfl
  |true=>
   obtain⟨i,h1,h2⟩:=qN.1 e;rw[h i h1]at h2;cases h2
def cIX:C:=
 (vU [vO 4 0] ((vU [MV 6 0,O1 7 .len 6,vO 8 0] (C.block 0 (vU [BI 9 .lss 8 7] ((vW 9 0).seq ((C.block 1 (vU [MV 10 8,MV 5 10] (vU [MV 11 1,MV 12 0,MV 13 5,O2 14 (.idxA 1) 12
 13,LD 15 14,BI 16 .eql 11 15] (vV 16 (vX [MV 17 5,MV 4 17]))))).seq (vY [vP 18 .add 8 1,MV 8 18])))).loop)).seq (vX [MC 4 (i6 (-1))])))
def cIF(z:Nat)(m:Option Nat):C:=
 ((C.ops [MC 4 (i6 0)]).seq (((C.ops [MV 6 0,O1 7 .len 6,MC 8 (i6 0)]).seq (C.block 0 ((C.ops [BI 9 .lss 8 7]).seq ((C.cond (.t 9) C.skip (C.exit 0)).seq ((C.block 1 ((C.ops [MV 10 8,MV 5 10]).seq ((C.ops [MV 11 1,MV 12 0,MV 13 5,O2 14 (.idxA z) 12 13,O1 15 (.load m) 14,O2 16 .callv 11 15]).seq (C.cond (.t 16) ((C.ops [MV 17 5,MV 4 17]).seq C.ret) C.skip)))).seq (C.ops [BC 18 .add 8 (i6 1),MV 8 18])))).loop)).seq ((C.ops [MC 4 (i6 (-1))]).seq C.ret)))
def cCT(g:Nat):C:=((C.ops [MC 4 (.bool false)]).seq ((C.ops [MV 5 0,MV 6 1,O2 7 (.call g true) 5 6,BC 8 .geq 7 (i6 0),MV 4 8]).seq C.ret))
def cEQ:C:=
 (vU [MC 4 (.bool false)] ((vU [MV 6 0,O1 7 .len 6,MV 8 1,O1 9 .len 8,BI 10 .neq 7 9] (vV 10 (vX [MC 4 (.bool false)]))).seq ((vU [MV 11 0,O1 12 .len 11,vO 13 0] (C.block 0 (vU
 [BI 14 .lss 13 12] ((vW 14 0).seq ((C.block 1 (vU [MV 15 13,MV 5 15] (vU [MV 16 0,MV 17 5,O2 18 (.idxA 1) 16 17,LD 19 18,MV 20 1,MV 21 5,O2 22 (.idxA 1) 20 21,LD 23 22,BI 24
 .neq 19 23] (vV 24 (vX [MC 4 (.bool false)]))))).seq (vY [vP 25 .add 13 1,MV 13 25])))).loop)).seq (vX [MC 4 (.bool true)]))))
inductive At where
 |s (x:List UInt8)
 |i (n:Int)
 deriving DecidableEq
def At.v:At->AV
 | .s x=> .str x
 | .i n=> .int .i64 n
def At.k:At->Bool
 | .s _=>true
 | .i _=>false
theorem At.strip(a:At):a.v.strip=a.v:=by cases a<;>rfl
theorem At.flag(a:At):a.v.flag=true:=by cases a<;>rfl
theorem At.solid(a:At):a.v.solid=true:=by cases a<;>rfl
theorem At.eql{a b:At}(h:a.k=b.k):UN .eql a.v b.v=True∧UJ .eql a.v b.v= .bool (decide (a=b)):=by
 cases a<;>cases b<;>simp_all [At.v,At.k,UN,UJ]
theorem At.neq{a b:At}(h:a.k=b.k):UN .neq a.v b.v=True∧UJ .neq a.v b.v= .bool (!decide (a=b)):=by
 cases a<;>cases b<;>simp_all [At.v,At.k,UN,UJ]
set_option maxHeartbeats 1000000
theorem qDC{P:Program}{f:Nat}(hf:qG P f 19 0 [RV.tmp 4] cIX)(n:Nat)(g:Nat->At)(x:At)(h:wh)(hk: ∀i,i<n->x.k=(g i).k)(hn:n<=9223372036854775807):
  ACalls P f [.sl n (λi=> [(g i).v]),x.v] h (.int .i64 (qbE (λi=>decide (x=g i)) n 0)) h:=by
 have s1:=x.strip;have s2:=x.flag;refine acO hf ?_;simp (disch:=omega) only[cIX,go_sem];refine qk (T:=λi:Nat=>qP 19 [(0,.sl n (λi=> [(g i).v])),(1,x.v),(6,.sl n (λi=> [(g i).v])),(7,.int .i64 n),(8,.int .i64 i)]) (H:=λ_=>h) (inv:=λi=>i<=n∧ ∀j,j<i->decide (x=g j)=false) (m:=λi=>n-i) 0 ⟨nzl _,λj hj=>by omega⟩ (Wk.temps ?_) ?_
 ·exact tmq
 rintro i ⟨i1,i2⟩ K hK
 by_cases hi:i<n
 ·have k1:((i:Int)<n)=True:=wj;obtain⟨e1,e2⟩:=At.eql (hk i hi);have f1:=(g i).strip;have f2:=(g i).flag
  by_cases g0:x=g i
  ·rw[dqt g0]at e2;have hV:=kW hi i2 (by rw[dqt g0]);rw[hV];simp (disch:=omega) only[s1,s2,k1,e1,e2,f1,f2,go_sem]
   repeat' first|exact wc|with_reducible apply aiA|exact clz|fail
  ·rw[dqf g0]at e2;simp (disch:=omega) only[s1,s2,k1,e1,e2,f1,f2,go_sem]
   repeat' first|with_reducible apply aiA|exact clz|fail
   refine hK _ _ (i+1) ⟨hi,λj hj=> ?_⟩ om (Wk.temps ?_)
   ·by_cases e:j=i
    ·subst e;exact dqf g0
    ·exact i2 j om
   ·exact tmq
 ·have k1:((i:Int)<n)=False:=wl;have hV:=f0 (p:=λi=>decide (x=g i)) (n:=n) (λj hj=>i2 j om);rw[hV];simp (disch:=omega) only[s1,s2,k1,go_sem]
  repeat' first|exact wc|fail
theorem qeG{P:Program}{f z:Nat}{m:Option Nat}(hf:qG P f 19 0 [RV.tmp 4] (cIF z m))(n:Nat)(g:Nat->wi)(e:Nat->AV)(q:Nat)(first cap:wi)(p:Nat->Bool)(h:wh)
  (hg: ∀i,i<n->(g i).length=z∧kv (g i) 0 m∧cut (g i) 0 m=e i∧(e i).strip=e i∧(e i).flag=true) (hc: ∀i,i<n->ACalls P q (first++ [e i]++cap) h (.bool (p i)) h) (hn:n<=9223372036854775807):
  ACalls P f [.sl n g,.fn (.func q) first cap] h (.int .i64 (qbE p n 0)) h:=by
 refine acO hf ?_;simp (disch:=omega) only[cIF,go_sem];refine qk (T:=λi:Nat=>qP 19 [(0,.sl n g),(1,.fn (.func q) first cap),(6,.sl n g),(7,.int .i64 n),(8,.int .i64 i)]) (H:=λ_=>h) (inv:=λi=>i<=n∧ ∀j,j<i->p j=false) (m:=λi=>n-i) 0 ⟨nzl _,λj hj=>by omega⟩ (Wk.temps ?_) ?_
 ·exact tmq
 rintro i ⟨i1,i2⟩ K hK
 by_cases hi:i<n
 ·have k1:((i:Int)<n)=True:=wj;obtain⟨e1,e2,e3,e4,e5⟩:=hg i hi;have e1:=eqt e1;have e2:=eqt e2;have c:=hc i hi;cases g0:p i with
  |true=>
   rw[g0]at c;have hV:=kW hi i2 g0;rw[hV];simp (disch:=omega) only[k1,e1,e2,e3,e4,e5,go_sem]
   repeat' first|(refine qI c ?_;simp (disch:=omega) only[go_sem])|exact wc|with_reducible apply aiA|exact clz|fail
  |false=>
   rw[g0]at c;simp (disch:=omega) only[k1,e1,e2,e3,e4,e5,go_sem]
   repeat' first|(refine qI c ?_;simp (disch:=omega) only[go_sem])|with_reducible apply aiA|exact clz|fail
   refine hK _ _ (i+1) ⟨hi,λj hj=> ?_⟩ om (Wk.temps ?_)
   ·by_cases e:j=i
    ·subst e;exact g0
    ·exact i2 j om
   ·exact tmq
 ·have k1:((i:Int)<n)=False:=wl;have hV:=f0 (p:=p) (n:=n) (λj hj=>i2 j om);rw[hV];simp (disch:=omega) only[k1,go_sem]
  repeat' first|exact wc|fail
theorem qxL{P:Program}{f g:Nat}(hf:qG P f 9 0 [RV.tmp 4] (cCT g)){p:Nat->Bool}{n:Nat}{a b:AV}{h:wh}(ha:a.strip=a∧a.flag=true)(hb:b.strip=b∧b.flag=true)(hc:ACalls P g [a,b] h (.int .i64 (qbE p n 0)) h):
  ACalls P f [a,b] h (.bool (jC p n)) h:=by
 obtain⟨a1,a2⟩:=ha;obtain⟨b1,b2⟩:=hb;unfold jC;have e0:strips [a,b]= [a,b]:=by simp[strips,a1,b1]
 rw[<-e0]at hc;refine acO hf ?_;simp (disch:=omega) only[cCT,a1,a2,b1,b2,go_sem]
 repeat' first|(refine cA hc ?_ ?_;exact flk;simp (disch:=omega) only[go_sem])|exact wc|fail
theorem qCg{P:Program}{f:Nat}(hf:qG P f 26 0 [RV.tmp 4] cEQ)(n m:Nat)(g k:Nat->At)(h:wh)(hk: ∀i,i<n->i<m->(g i).k=(k i).k)(hn:n<=9223372036854775807)(hm:m<=9223372036854775807):
  ACalls P f [.sl n (λi=> [(g i).v]),.sl m (λi=> [(k i).v])] h (.bool (decide (n=m∧ ∀i,i<n->g i=k i))) h:=by
 by_cases hnm:n=m
 ·subst hnm;refine acO hf ?_;simp (disch:=omega) only[cEQ,go_sem];refine qk (T:=λi:Nat=>qP 26 [(0,.sl n (λi=> [(g i).v])),(1,.sl n (λi=> [(k i).v])),(12,.int .i64 n),(13,.int .i64 i)]) (H:=λ_=>h) (inv:=λi=>i<=n∧ ∀j,j<i->g j=k j) (m:=λi=>n-i) 0 ⟨nzl _,λj hj=>by omega⟩ (Wk.temps ?_) ?_
  ·exact tmq
  rintro i ⟨i1,i2⟩ K hK
  by_cases hi:i<n
  ·have k1:((i:Int)<n)=True:=wj;obtain⟨e1,e2⟩:=At.neq (hk i hi hi);have f1:=(g i).strip;have f2:=(g i).flag;have f3:=(k i).strip;have f4:=(k i).flag
   by_cases g0:g i=k i
   ·rw[dqt g0]at e2;simp (disch:=omega) only[k1,e1,e2,f1,f2,f3,f4,go_sem]
    repeat' first|with_reducible apply aiA|exact clz|fail
    refine hK _ _ (i+1) ⟨hi,λj hj=> ?_⟩ om (Wk.temps ?_)
    ·by_cases e:j=i
     ·subst e;exact g0
     ·exact i2 j om
    ·exact tmq
   ·rw[dqf g0]at e2;rw[dqf (λhc=>g0 (hc i hi))];simp (disch:=omega) only[k1,e1,e2,f1,f2,f3,f4,go_sem]
    repeat' first|exact wc|with_reducible apply aiA|exact clz|fail
  ·have k1:((i:Int)<n)=False:=wl;rw[dqt (λj hj=>i2 j om)];simp (disch:=omega) only[k1,go_sem]
   repeat' first|exact wc|fail
 ·have k1:((n:Int)=m)=False:=wl;rw[dqf (λhc=>hnm hc.1)];refine acO hf ?_;simp (disch:=omega) only[cEQ,k1,go_sem]
  repeat' first|exact wc|fail
end AF
end
section
open Go Go.Proofs AF
def je:List Nat:= []
def qhz:C:=
 (vU [MC 2 (.bool false)] (vX [MV 3 0,O1 4 .slen 3,vP 5 .leq 4 16,MV 6 5,MG 7 6 true 0,P1 8 6 true (.call 89 true) 7,PF 9 6 8,MV 10 9,MG 11 10 true 0,P1 12 10 true (.call 210
 true) 11,MG 13 10 true 0,P1 14 10 true .slen 13,P2 15 10 true (.bin .eql) 12 14,PF 16 10 15,MV 2 16]))
theorem qeC:qG Tryz.prog 136 17 0 [RV.tmp 2] qhz:=fi Tryz.f136 [] je []
def qj0:C:=
 (vU [MC 2 (.bool false)] (vX [MV 3 0,BC 4 .neq 3 (.str []),MV 5 4,MG 6 5 true 0,P1 7 5 true .slen 6,PC 8 5 true (.bin .leq) 7 (i6 16),PF 9 5 8,MV 10 9,MG 11 10 true 0,P1 12 10
 true (.call 253 true) 11,MG 13 10 true 0,P1 14 10 true .slen 13,P2 15 10 true (.bin .eql) 12 14,PF 16 10 15,MV 2 16]))
theorem qgK:qG Tryz.prog 181 17 0 [RV.tmp 2] qj0:=fi Tryz.f181 [] je []
def qvD:C:=
 (vU [MC 2 (.bool false)] ((vU [MV 5 0,O1 6 .slen 5,vP 7 .lss 6 1,MV 8 7,vS 9 8 0,vQ 10 8 .slen 9,vT 11 8 (.bin .gtr) 10 (i6 64),PT 12 8 11,MV 13 12,vS 14 13 0,vQ 15 13 (.call
 162 true) 14,vT 16 13 (.bin .neq) 15 (i6 0),PT 17 13 16] (vV 17 (vX [MC 2 (.bool false)]))).seq ((vU [MV 18 0,OC 19 .sidx 18 (i6 0),O1 20 (.call 163 true) 19,MV 3 20] (vU [MV
 21 3,vP 22 .neq 21 1,MV 23 22,MG 24 23 true 3,PC 25 23 true (.bin .neq) 24 (i6 3),PF 26 23 25] (vV 26 (vX [MC 2 (.bool false)])))).seq ((vU [vO 4 0] (C.block 0 ((vU [MV 27 4,MV
 28 0,O1 29 .slen 28,BI 30 .lss 27 29] (vW 30 0)).seq ((C.block 1 (vU [MV 33 0,MV 34 4,O2 35 .sidx 33 34,O1 36 (.call 163 true) 35,vP 37 .gtr 36 4] (vV 37 (vX [MC 2 (.bool
 false)])))).seq (vZ 31 4))).loop)).seq (vX [MC 2 (.bool true)])))))
theorem qk9:qG Tryz.prog 89 38 0 [RV.tmp 2] qvD:=fi Tryz.f89 [] je []
def qws:C:=
 (vU [vO 2 0] (vU [vO 3 0] ((vU [vO 4 0] (C.block 0 ((vU [MV 6 4,MV 7 0,O1 8 .slen 7,BI 9 .lss 6 8] (vW 9 0)).seq ((C.block 1 (vU [MV 12 0,MV 13 4,O2 14 .sidx 12 13,O1 15 (.call
 163 true) 14,MV 5 15] (vU [MV 16 5,vP 17 .eql 16 1,MV 18 17,vS 19 18 5,vT 20 18 (.bin .eql) 19 (i6 3),PT 21 18 20] (vV 21 (vZ 22 3))))).seq (vZ 10 4))).loop)).seq (vX [MV 24
 3,MV 2 24]))))
theorem qyt:qG Tryz.prog 210 25 0 [RV.tmp 2] qws:=fi Tryz.f210 [] je []
def qwO:C:=
 (vU [vO 2 0] (vU [vO 3 0] ((vU [MV 6 0,O1 7 .slen 6,vO 8 0] (C.block 0 (vU [BI 9 .lss 8 7] ((vW 9 0).seq ((C.block 1 (vU [MV 10 8,MV 4 10] (vU [MV 11 0,MV 12 4,O2 13 .sidx 11
 12,O1 14 (.call 220 true) 13,MV 5 14] (vU [MV 15 5,vP 16 .eql 15 1,MV 17 16,vS 18 17 5,vT 19 17 (.bin .eql) 18 (i6 3),PT 20 17 19] (vV 20 (vZ 21 3)))))).seq (vY [vP 23 .add 8
 1,MV 8 23])))).loop)).seq (vX [MV 24 3,MV 2 24]))))
theorem qyP:qG Tryz.prog 253 25 0 [RV.tmp 2] qwO:=fi Tryz.f253 [] je []
def qsq:C:=
 (vU [vO 2 0] ((vU [MV 6 0,O1 7 .slen 6,vP 8 .gtr 7 65536] (vV 8 (vX [vO 2 4]))).seq (vU [MV 9 0,O1 10 (.call 238 true) 9,MV 3 10] ((vU [vO 4 0] (C.block 0 ((vU [MV 11 4,MV 12
 0,O1 13 .slen 12,BI 14 .lss 11 13] (vW 14 0)).seq ((C.block 1 (vU [MV 17 0,MV 18 4,O2 19 .sidx 17 18,O1 20 (.call 163 true) 19,MV 5 20] (vU [MV 21 5,vP 22 .eql 21 0,MV 23 22,vS
 24 23 5,vT 25 23 (.bin .eql) 24 (i6 2),vS 26 23 25,MG 27 26 true 3,MG 28 26 true 4,P2 29 26 true (.idxA 1) 27 28,P1 30 26 true (.load none) 29,P1 31 26 true (.un UnOp.not)
 30,QF 32 23 false 26 31,PT 33 23 32] (vV 33 (vX [vO 2 11]))))).seq (vZ 15 4))).loop)).seq (vX [vO 2 0])))))
theorem qrl:qG Tryz.prog 162 34 0 [RV.tmp 2] qsq:=fi Tryz.f162 [] je []
def qwo:C:=
 (vU [vO 2 0] ((C.block 0 (vU [MV 4 0,BC 5 .geq 4 (.int .u8 97),MV 6 5,MG 7 6 true 0,PC 8 6 true (.bin .leq) 7 (.int .u8 122),PF 9 6 8,MV 10 9,vS 11 10 0,vT 12 10 (.bin .geq) 11
 (.int .u8 65),vS 13 10 12,MG 14 13 true 0,PC 15 13 true (.bin .leq) 14 (.int .u8 90),QF 16 10 false 13 15,PT 17 10 16,MV 3 17] (C.cond (.t 3) (vX [vO 2 1]) (vU [MV 19 0,BC 20
 .eql 19 (.int .u8 94),MV 21 20,vS 22 21 0,vT 23 21 (.bin .eql) 22 (.int .u8 126),PT 24 21 23,MV 25 24,vS 26 25 0,vT 27 25 (.bin .eql) 26 (.int .u8 37),PT 28 25 27,MV 18 28]
 (C.cond (.t 18) (vX [vO 2 2]) (vU [MV 30 0,BC 31 .geq 30 (.int .u8 48),MV 32 31,MG 33 32 true 0,PC 34 32 true (.bin .leq) 33 (.int .u8 57),PF 35 32 34,MV 29 35] (C.cond (.t 29)
 (vX [vO 2 3]) (vU [MV 37 0,BC 38 .eql 37 (.int .u8 39),MV 36 38] (C.cond (.t 36) (vX [vO 2 4]) (vU [MV 40 0,BC 41 .eql 40 (.int .u8 46),MV 42 41,vS 43 42 0,vT 44 42 (.bin .eql)
 43 (.int .u8 44),PT 45 42 44,MV 46 45,vS 47 46 0,vT 48 46 (.bin .eql) 47 (.int .u8 59),PT 49 46 48,MV 50 49,vS 51 50 0,vT 52 50 (.bin .eql) 51 (.int .u8 58),PT 53 50 52,MV 54
 53,vS 55 54 0,vT 56 54 (.bin .eql) 55 (.int .u8 33),PT 57 54 56,MV 58 57,vS 59 58 0,vT 60 58 (.bin .eql) 59 (.int .u8 63),PT 61 58 60,MV 62 61,vS 63 62 0,vT 64 62 (.bin .eql)
 63 (.int .u8 40),PT 65 62 64,MV 66 65,vS 67 66 0,vT 68 66 (.bin .eql) 67 (.int .u8 41),PT 69 66 68,MV 70 69,vS 71 70 0,vT 72 70 (.bin .eql) 71 (.int .u8 45),PT 73 70 72,MV 39
 73] (C.cond (.t 39) (vX [vO 2 5]) (vU [MV 75 0,BC 76 .eql 75 (.int .u8 32),MV 74 76] (vV 74 (vX [vO 2 6])))))))))))))).seq (vX [vO 2 0])))
theorem qyo:qG Tryz.prog 163 77 0 [RV.tmp 2] qwo:=fi Tryz.f163 [] je []
def qwx:C:=
 (vU [vO 2 0] ((C.block 0 (vU [MV 4 0,BC 5 .geq 4 (.int .u8 97),MV 6 5,MG 7 6 true 0,PC 8 6 true (.bin .leq) 7 (.int .u8 122),PF 9 6 8,MV 10 9,vS 11 10 0,vT 12 10 (.bin .geq) 11
 (.int .u8 65),vS 13 10 12,MG 14 13 true 0,PC 15 13 true (.bin .leq) 14 (.int .u8 90),QF 16 10 false 13 15,PT 17 10 16,MV 3 17] (C.cond (.t 3) (vX [vO 2 1]) (vU [MV 19 0,BC 20
 .eql 19 (.int .u8 94),MV 21 20,vS 22 21 0,vT 23 21 (.bin .eql) 22 (.int .u8 126),PT 24 21 23,MV 25 24,vS 26 25 0,vT 27 25 (.bin .eql) 26 (.int .u8 37),PT 28 25 27,MV 18 28]
 (C.cond (.t 18) (vX [vO 2 2]) (vU [MV 30 0,BC 31 .geq 30 (.int .u8 48),MV 32 31,MG 33 32 true 0,PC 34 32 true (.bin .leq) 33 (.int .u8 57),PF 35 32 34,MV 29 35] (C.cond (.t 29)
 (vX [vO 2 3]) (vU [MV 37 0,BC 38 .eql 37 (.int .u8 39),MV 36 38] (C.cond (.t 36) (vX [vO 2 4]) (vU [MV 40 0,BC 41 .eql 40 (.int .u8 32),MV 39 41] (C.cond (.t 39) (vX [vO 2 6])
 (vU [MV 43 0,BC 44 .neq 43 (.int .u8 0),MV 45 44,MG 46 45 true 0,PN 47 45 true (.call 281 true) [.c (.str [46,44,59,58,33,63,40,41,45]),.t 46],PC 48 45 true (.bin .geq) 47 (i6
 0),PF 49 45 48,MV 42 49] (vV 42 (vX [vO 2 5])))))))))))))).seq (vX [vO 2 0])))
theorem qyy:qG Tryz.prog 220 50 0 [RV.tmp 2] qwx:=fi Tryz.f220 [] je []
def qwK:C:=
 (vU [ON 2 (.nilo 0 1 4) []] (vU [⟨some 5,none,.bslc 1 1 0 4 [.bool false] [],[]⟩,MV 3 5] ((vU [vO 4 0] (C.block 0 ((vU [MV 6 4,MV 7 0,O1 8 .slen 7,BI 9 .lss 6 8] (vW 9 0)).seq
 ((C.block 1 (vY [MV 12 3,MV 13 0,MV 14 4,O2 15 .sidx 13 14,O1 16 (.call 163 true) 15,vP 17 .eql 16 2,MV 18 17,MG 19 18 true 4,PC 20 18 true (.bin .gtr) 19 (i6 0),PF 21 18 20,MV
 22 21,MG 23 22 true 0,MG 24 22 true 4,PC 25 22 true (.bin .sub) 24 (i6 1),P2 26 22 true .sidx 23 25,P1 27 22 true (.call 163 true) 26,PC 28 22 true (.bin .eql) 27 (i6 1),MG 29
 22 true 28,vS 30 29 3,vS 31 29 4,vT 32 29 (.bin .sub) 31 (i6 1),vR 33 29 (.idxA 1) 30 32,v8 34 29 33,QT 35 22 true 29 34,PF 36 22 35,⟨some 37,none,.bslc 2 1 1 4 [.bool false]
 [(0,1)],[.t 36]⟩,O2 38 (.app 3 1 4 1) 12 37,MV 3 38])).seq (vZ 10 4))).loop)).seq (vX [MV 39 3,MV 2 39]))))
theorem qyL:qG Tryz.prog 238 40 4 [RV.tmp 2] qwK:=fi Tryz.f238 [2,5,37,38] je []
def qwV:C:=
 (vU [vO 4 0] (vX [MV 5 0,MV 6 1,O2 7 (.call 319 true) 5 6,MV 4 7]))
theorem qyY:qG Tryz.prog 281 8 0 [RV.tmp 4] qwV:=fi Tryz.f281 [] je []
def qjZ:C:=
 (vU [MC 2 (.bool false)] ((vU [MV 4 0,BC 5 .eql 4 (.str []),MV 6 5,vS 7 6 0,vQ 8 6 .slen 7,vT 9 6 (.bin .gtr) 8 (i6 64),PT 10 6 9,MV 11 10,vS 12 11 0,vQ 13 11 (.call 219 true)
 12,vT 14 11 (.bin .neq) 13 (i6 0),PT 15 11 14] (vV 15 (vX [MC 2 (.bool false)]))).seq ((vU [MV 16 0,OC 17 .sidx 16 (i6 0),O1 18 (.call 220 true) 17,MV 3 18] (vU [MV 19 3,vP 20
 .neq 19 1,MV 21 20,MG 22 21 true 3,PC 23 21 true (.bin .neq) 22 (i6 3),PF 24 21 23] (vV 24 (vX [MC 2 (.bool false)])))).seq (vX [MV 25 0,O1 26 .s2b 25,OC 27 (.call 221 true) 26
 (.fn (Fn.func 222) [] []),O1 28 (.un UnOp.not) 27,MV 2 28]))))
theorem qgJ:qG Tryz.prog 145 29 0 [RV.tmp 2] qjZ:=fi Tryz.f145 [] je []
def qst:C:=
 (vU [⟨some 2,none,.alloc 0 28 [i6 0],[]⟩] ((vU [MV 6 0,O1 7 .slen 6,vP 8 .gtr 7 65536] (vV 8 (vX [⟨none,none,.store 1,[.t 2,.c (i6 4)]⟩]))).seq ((vU [MV 9 0,O1 10 (.call 280
 true) 9] (C.block 0 (C.range (.t 10) [11,12] (vY [MV 4 12]) (C.block 1 (vU [MV 13 4,OC 14 .sidx 13 (i6 0),O1 15 (.call 220 true) 14,MV 5 15] (vU [MV 16 5,vP 17 .eql 16 0,MV 18
 17,vS 19 18 5,vT 20 18 (.bin .eql) 19 (i6 2),PT 21 18 20] (vV 21 (vX [⟨none,none,.store 1,[.t 2,.c (i6 11)]⟩])))))))).seq (vX [⟨none,none,.store 1,[.t 2,.c (i6 0)]⟩]))))
theorem qrp:qG Tryz.prog 219 22 1 [RV.cell 2 none] qst:=fi Tryz.f219 [2] je []
def qwy:C:=
 (vU [MC 4 (.bool false)] (vX [MV 5 0,MV 6 1,O2 7 (.call 282 true) 5 6,vP 8 .geq 7 0,MV 4 8]))
theorem qyz:qG Tryz.prog 221 9 0 [RV.tmp 4] qwy:=fi Tryz.f221 [] je []
def qwz:C:=
 (vU [MC 2 (.bool false)] (vU [MV 4 0,O1 5 (.call 220 true) 4,MV 3 5] (vX [MV 6 3,vP 7 .eql 6 5,MV 8 7,vS 9 8 3,vT 10 8 (.bin .eql) 9 (i6 6),PT 11 8 10,MV 2 11])))
theorem qyA:qG Tryz.prog 222 12 0 [RV.tmp 2] qwz:=fi Tryz.f222 [] je []
def qwU:C:=
 (vU [O1 1 (.box 0 9) 0,MC 2 .nilfn] (vX [O1 3 (.mkfn (Fn.func 335) 0) 1,MV 2 3]))
theorem qyX:qG Tryz.prog 280 4 1 [RV.tmp 2] qwU:=fi Tryz.f280 [1] je []
def qwW:C:=
 (vU [vO 4 0] ((vU [MV 6 0,O1 7 .len 6,vO 8 0] (C.block 0 (vU [BI 9 .lss 8 7] ((vW 9 0).seq ((C.block 1 (vU [MV 10 8,MV 5 10] (vU [MV 11 1,MV 12 0,MV 13 5,O2 14 (.idxA 1) 12
 13,LD 15 14,O2 16 .callv 11 15] (vV 16 (vX [MV 17 5,MV 4 17]))))).seq (vY [vP 18 .add 8 1,MV 8 18])))).loop)).seq (vX [MC 4 (i6 (-1))])))
theorem qyZ:qG Tryz.prog 282 19 0 [RV.tmp 4] qwW:=fi Tryz.f282 [] je []
def qsE:C:=
 (vU [MC 4 (.bool false)] (vX [MV 5 0,O1 6 .slen 5,MV 7 1,O1 8 .slen 7,BI 9 .geq 6 8,MV 10 9,MG 11 10 true 0,MG 12 10 true 0,P1 13 10 true .slen 12,MG 14 10 true 1,P1 15 10 true
 .slen 14,P2 16 10 true (.bin .sub) 13 15,P2 17 10 true (.sslc true false) 11 16,MG 18 10 true 1,P2 19 10 true (.bin .eql) 17 18,PF 20 10 19,MV 4 20]))
theorem qrB:qG Tryz.prog 356 21 0 [RV.tmp 4] qsE:=fi Tryz.f356 [] je []
def qw8:C:=
 (vU [vO 3 0] (vU [vO 4 1] (C.block 0 ((vU [MV 5 4,LD 6 1,O1 7 .slen 6,BI 8 .leq 5 7] (vW 8 0)).seq ((C.block 1 ((vU [MV 11 4,LD 12 1,O1 13 .slen 12,BI 14 .lss 11 13,MV 15 14,P1
 16 15 true (.load none) 1,MG 17 15 true 4,P2 18 15 true .sidx 16 17,P1 19 15 true (.call 220 true) 18,PC 20 15 true (.bin .eql) 19 (i6 2),PF 21 15 20,MV 22 21,P1 23 22 true
 (.load none) 1,MG 24 22 true 3,MG 25 22 true 4,PN 26 22 true (.call 336 true) [.t 23,.t 24,.t 25],PF 27 22 26] (vV 27 (C.exit 1))).seq ((vU [MV 28 0,MV 29 3,LD 30 1,MV 31 3,MV
 32 4,ON 33 (.sslc true true) [.t 30,.t 31,.t 32],ON 34 .callv [.t 28,.t 29,.t 33],O1 35 (.un UnOp.not) 34] (vV 35 C.ret)).seq (vY [MV 36 4,MV 3 36])))).seq (vZ 9 4))).loop)))
theorem qze:qG Tryz.prog 335 37 0 [] qw8:=fi Tryz.f335 [] je []
def qw9:C:=
 (vU [MC 6 (.bool false)] (vX [MV 7 0,MV 8 1,O2 9 .sidx 7 8,O1 10 (.call 220 true) 9,vP 11 .eql 10 1,MV 12 11,MG 13 12 true 2,MG 14 12 true 1,P2 15 12 true (.bin .gtr) 13 14,PF
 16 12 15,MV 6 16]))
theorem qzf:qG Tryz.prog 336 17 0 [RV.tmp 6] qw9:=fi Tryz.f336 [] je []
end
section
namespace HY
def qeN(n:Int):Int:=
 if (97<=n∧n<=122)∨(65<=n∧n<=90) then 1
 else if n=94∨n=126∨n=37 then 2
 else if 48<=n∧n<=57 then 3
 else if n=39 then 4
 else if n=32 then 6
 else if n=46∨n=44∨n=59∨n=58∨n=33∨n=63∨n=40∨n=41∨n=45 then 5
 else 0
def kind(b:UInt8):Int:=qeN b.toNat
def ch(s:List UInt8)(i:Nat):UInt8:=s.getD i 0
theorem jV(s:List UInt8)(i:Nat):(s[i]?).getD 0=ch s i:=by rw[ch,gdqA]
def W0(frm:Nat)(cur:List UInt8):List UInt8->List (Nat×List UInt8)
 | []=> [(frm,cur)]
 |c::r=>if kind c=2∧kind (ch cur 0)=1 then W0 frm (cur++ [c]) r else (frm,cur)::W0 (frm+cur.length) [c] r
def zW:List UInt8->List (Nat×List UInt8)
 | []=> []
 |c::r=>W0 0 [c] r
def qfk(s:List UInt8):List (List UInt8):=(zW s).map (·.2)
theorem qoz(frm:Nat)(cur r:List UInt8):W0 frm cur r≠ []:=by
 induction r generalizing frm cur with
 |nil=>simp[W0]
 |cons c r ih=>simp only[W0];split;exact ih _ _;simp
theorem qkv{frm:Nat}{cur r:List UInt8}(hc:cur≠ []): ∀x∈W0 frm cur r,x.2≠ []:=by
 induction r generalizing frm cur with
 |nil=>intro x hx;simp[W0]at hx;subst hx;exact hc
 |cons c r ih=>
  intro x hx;simp only[W0]at hx;split at hx
  ·exact ih (by simp) x hx
  ·rcases List.mem_cons.1 hx with rfl|hx
   ·exact hc
   ·exact ih (by simp) x hx
theorem qsY{s:List UInt8}: ∀x∈qfk s,x≠ []:=by
 cases s with
 |nil=>intro x hx;simp[qfk,zW]at hx
 |cons c r=>
  intro x hx;simp only[qfk,zW,List.mem_map]at hx;obtain⟨y,hy,rfl⟩:=hx;exact qkv (by simp) y hy
def jb(s:List UInt8):Nat->Bool
 |0=>false
 |i+1=>decide (kind (ch s (i+1))=2)&&(decide (kind (ch s i)=1)||jb s i)
def qbN(s:List UInt8):List Bool:=(List.range s.length).map (jb s)
theorem qde{s:List UInt8}{i:Nat}(h:i<s.length):(qbN s).getD i false=jb s i:=by simp[qbN,gdqA,h]
def qbF(s:List UInt8)(f i:Nat):Prop:=f<i∧(decide (kind (ch s (i-1))=1)||jb s (i-1))=decide (kind (ch s f)=1)
theorem qbG{s:List UInt8}{f i:Nat}(h:qbF s f i):jb s i=(decide (kind (ch s i)=2)&&decide (kind (ch s f)=1)):=by
 obtain⟨h1,h2⟩:=h;cases i with
 |zero=>omega
 |succ i=>simp only[jb];rw[<-h2];rfl
theorem qeI(s:List UInt8):qbF s 0 1:=⟨om,by simp[jb]⟩
theorem qlk{s:List UInt8}{f i:Nat}(h:qbF s f i)(hr:jb s i=true):qbF s f (i+1):=by
 have h3:=qbG h;rw[hr]at h3;refine⟨by have:=h.1;omega,?_⟩;rw[Nat.add_sub_cancel,hr,Bool.or_true];symm at h3;simp only[Bool.and_eq_true]at h3;exact h3.2.symm
theorem qh1{s:List UInt8}{f i:Nat}(h:qbF s f i)(hr:jb s i=false):qbF s i (i+1):=
 ⟨om,by rw[Nat.add_sub_cancel,hr,Bool.or_false]⟩
def jc(c:List UInt8):Bool:=decide (kind (ch c 0)=0)||decide (kind (ch c 0)=2)
def zz(s:List UInt8):Int:=if 65536<s.length then 4 else if (qfk s).any jc then 11 else 0
def ke(s:List UInt8):Bool:=
 decide (0<s.length)&&decide (s.length<=64)&&decide (zz s=0)&&(decide (kind (ch s 0)=1)||decide (kind (ch s 0)=3))&& !(s.any λc=>decide (kind c=5)||decide (kind c=6))
end HY
end
section
namespace HY
def qrJ(s p:List UInt8):Bool:=decide (s.drop (s.length-p.length)=p)
def qab(s:List UInt8)(i:Nat):Bool:=decide (kind (ch s i)=0)||(decide (kind (ch s i)=2)&& !jb s i)
end HY
end
section
open Go Go.Proofs AF HY
namespace HY
def strs(l:List (List UInt8)):AV:= .sl l.length λi=> [.str (l.getD i [])]
theorem qt9 {P : Program} {f : FuncId} {fn : Func} (h : P.funcs[f]? = some fn) (h1 : fn.body.isSome = true) (h2 : (fn.name != "runtime.NumGoroutine") = true) : okF P f = true := by
 unfold okF;rw[h];simp[h1,h2]
theorem qGB(s:List UInt8)(c:Int)(h:wh):ACalls Tryz.prog 319 [.str s,.int .u8 c] h (.int .i64 (Go.Lib.indexByte s c.toNat.toUInt8)) h:=by
 refine⟨qt9 Tryz.func319 (by kernel_rfl) (by kernel_rfl),λw σ xs H hv=> ?_⟩;obtain⟨x,y,rfl,hx,hy⟩:=hv.two;rw[kg hx,zV hy];refine (callsIn_wide.2 (qpd ⟨s.toArray⟩ c w)).mono ?_;rintro e w' ⟨rfl,rfl⟩;exact⟨_,σ,rfl,H,.imm .int,Ext.refl _ _⟩
theorem qGz(s:List UInt8)(c:Int)(h:wh):ACalls Tryz.prog 281 [.str s,.int .u8 c] h (.int .i64 (Go.Lib.indexByte s c.toNat.toUInt8)) h:=by
 refine qF qyY (by simp) ?_;simp only[lco,lnl,Nat.reduceAdd,Nat.reduceSub,List.replicate,lca,lna,lan];simp (disch:=omega) only[qwV,go_sem,qr,dvP,mdP]
 repeat' first|(refine qL (qGB s c _) ?_ ?_;exact flk;simp (disch:=omega) only[go_sem,qr,dvP,mdP])|exact wc|fail
theorem qmc: ∀n:Fin 256,(0<=Go.Lib.indexByte [46,44,59,58,33,63,40,41,45] (UInt8.ofNat n.val))↔(n.val=46∨n.val=44∨n.val=59∨n.val=58∨n.val=33∨n.val=63∨n.val=40∨n.val=41∨n.val=45):=by decide+kernel
theorem qFa(n:Int)(h:wh)(n0:0<=n)(n1:n<=255):ACalls Tryz.prog 220 [.int .u8 n] h (.int .i64 (qeN n)) h:=by
 obtain⟨m,rfl⟩: ∃m:Nat,n=m:=⟨n.toNat,om⟩
 have hp:=qmc ⟨m,om⟩;simp only at hp;obtain⟨q,hq⟩:=wg (Go.Lib.indexByte [46,44,59,58,33,63,40,41,45] (UInt8.ofNat m))
 rw[<-hq]at hp;have hc: ∀h,ACalls Tryz.prog 281 [.str [46,44,59,58,33,63,40,41,45],.int .u8 (m:Int)] h (.int .i64 q) h:=λh=>by rw[hq];exact qGz _ _ h
 refine qF qyy (by simp) ?_;simp only[lco,lnl,Nat.reduceAdd,Nat.reduceSub,List.replicate,lca,lna,lan];simp (disch:=omega) only[qwx,go_sem,qr,dvP,mdP]
 repeat' first|(refine qQ (λe=>⟨?_,hc _⟩) ?_;exact flk;simp (disch:=omega) only[go_sem,qr,dvP,mdP])|(apply qh;exact rvk;simp only[go_sem];apply qg)|(with_reducible first|intro _|apply aiA)
 all_goals first
  |omega
  |(unfold qeN;(repeat' split)<;>omega)
theorem qFc(n:Int)(h:wh):ACalls Tryz.prog 163 [.int .u8 n] h (.int .i64 (qeN n)) h:=by
 refine qF qyo (by simp) ?_;simp only[lco,lnl,Nat.reduceAdd,Nat.reduceSub,List.replicate,lca,lna,lan];simp (disch:=omega) only[qwo,go_sem,qr,dvP,mdP]
 repeat' first|(apply qh;exact rvk;simp only[go_sem];apply qg)|(with_reducible first|intro _|apply aiA)
 all_goals first
  |omega
  |grind [qeN]
end HY
end
section
open Go Go.Proofs AF HY
namespace HY
theorem _root_.AF.LowI.ret{h hh:wh}{ts:wi}{L:LInfo}(s:LS)(hl:LowI h hh)(hts: ∀c∈ts,qV (h.length+1) c=true):
  (hh++ [AObj.lp s ts L]).length=(h++ [AObj.lp .ready ts L]).length∧ ∀o∈hh++ [AObj.lp s ts L],o∈h++ [AObj.lp .ready ts L]∨lowO (h++ [AObj.lp .ready ts L]).length o:=by
 refine⟨by simp[hl.1],λo ho=> ?_⟩;rw[lap,List.length_singleton];rcases List.mem_append.1 ho with ho|ho
 ·rcases hl.2 o ho with h1|h1
  ·exact .inl (List.mem_append_left _ h1)
  ·exact .inr h1.2
 ·rw[List.mem_singleton]at ho;subst ho;exact .inr hts
theorem qhn(b:UInt8):0<=((b.toNat:Nat):Int)∧((b.toNat:Nat):Int)<=255:=by
 have:=b.toNat_lt
 omega
theorem qbY(b:UInt8)(h:wh):ACalls Tryz.prog 220 [.int .u8 (b.toNat:Int)] h (.int .i64 (kind b)) h:=qFa _ h (qhn b).1 (qhn b).2
theorem qa2(b:UInt8)(h:wh):ACalls Tryz.prog 163 [.int .u8 (b.toNat:Int)] h (.int .i64 (kind b)) h:=qFc _ h
theorem qcn{s:List UInt8}{f i:Nat}(hf:f<i)(hi:i<s.length):W0 f ((s.drop f).take (i-f)) (s.drop i)=if kind (ch s i)=2∧kind (ch s f)=1 then W0 f ((s.drop f).take (i+1-f)) (s.drop (i+1)) else (f,(s.drop f).take (i-f))::W0 i ((s.drop i).take (i+1-i)) (s.drop (i+1)):=by
 have e1:s.drop i=ch s i::s.drop (i+1):=by rw[List.drop_eq_getElem_cons hi];simp[ch,hi]
 have e2:ch ((s.drop f).take (i-f)) 0=ch s f:=by simp[ch,gdqA,List.getElem?_take,show 0<i-f by omega]
 have e3:(s.drop f).take (i+1-f)=(s.drop f).take (i-f)++ [ch s i]:=by
  rw[show i+1-f=(i-f)+1 by omega,List.take_add_one,List.getElem?_drop,show f+(i-f)=i by omega];simp[ch,gdqA,hi]
 have e4:f+((s.drop f).take (i-f)).length=i:=by rw[List.length_take,List.length_drop];omega
 have e5:(s.drop i).take (i+1-i)= [ch s i]:=by rw[e1,show i+1-i=1 by omega];rfl
 rw[e5,e1];simp only[W0,e2,e4,e3]
end HY
end
section
open Go Go.Proofs AF HY
namespace HY
def qcl(l:List Bool):AV:= .sl l.length λi=> [.bool (l.getD i false)]
theorem qrY{cs:wi}{n m k:Nat}{f:Nat->wi}{fz:Nat->Bool}{h:wh}(e:cs.length=m)(ek:k=m)(hf: ∀i c,cs[i]? =some c->f i= [c])(hr: ∀c∈cs,rei fz h (n+1) c=c):VLe (.sl m λi=>((List.drop i cs).take 1).map (rei fz h (n+1))) (.sl k f):=by
 subst e ek;refine qvQ rfl (λi hi=> ?_);rw[List.drop_eq_getElem_cons hi,hf i cs[i] (zD hi)];show [rei fz h (n+1) cs[i]]=_;rw[hr cs[i] (List.getElem_mem hi)]
def jF(l:List (List UInt8)):wi:=l.map .str
theorem jG(l:List (List UInt8)):(jF l).length=l.length:=by simp[jF]
theorem qgf{l:List (List UInt8)}{n m:Nat}{fz:Nat->Bool}{h:wh}(e:l.length=m):VLe (.sl m λi=>((List.drop i (jF l)).take 1).map (rei fz h (n+1))) (strs l):=by
 subst e;refine qrY (jG l) rfl (λi c hc=> ?_) (λc hc=> ?_)
 ·unfold jF at hc;rw[List.getElem?_map,Option.map_eq_some_iff]at hc;obtain⟨x,hx,rfl⟩:=hc;simp[gdqA,hx]
 ·unfold jF at hc;rw[List.mem_map]at hc;obtain⟨x,_,rfl⟩:=hc;rfl
def gJ(s:List UInt8)(i:Nat):wi:=(List.range i).map λj=>AV.bool (jb s j)
theorem qcz(s:List UInt8)(i:Nat):gJ s (i+1)=gJ s i++ [.bool (jb s i)]:=by simp[gJ,List.range_succ]
theorem qbt(s:List UInt8)(i:Nat):(gJ s i).length=i:=by simp[gJ]
theorem t95(s:List UInt8)(h:wh)(hs:s.length<=1000000000):ACalls Tryz.prog 238 [.str s] h (qcl (qbN s)) h:=by
 refine qF qyL (by simp) ?_;simp only[lco,lnl,Nat.reduceAdd,Nat.reduceSub,List.replicate,lca,lna,lan];simp (disch:=omega) only[qwK,zM,go_sem,qr,dvP,mdP]
 all_goals first
  |omega
  |(simp;done)
  |skip
 refine qk (T:=λi:Nat×Nat×AObj=>qP 40 [(0,.str s),(3,.osl (h.length+1) i.2.1 1 0 i.1),(4,.int .i64 i.1)]) (H:=λi=>h++ [.emp 1,.mem i.2.1 4 (gJ s i.1),i.2.2,.emp 0])
  (inv:=λi=>i.1<=s.length∧qz [i.2.2] 0=true) (m:=λi=>s.length-i.1) (0,1,.emp 0) ⟨by simp only;omega,rfl⟩ (Wk.temps ?_) ?_
 ·(simp only[qP,List.foldl,go_sem,qf,qc,qa,qe];try exact we)
 ·rintro⟨i,v,O⟩ ⟨i1,i2⟩ K hK;simp only at i1 i2 hK;have i2': ∀m,qz (O::m) 0=true:=λ_=>i2
  have eL:=qbt s i;have eT:List.take i (gJ s i)=gJ s i:=ltl om
  by_cases hi:i<s.length
  ·cases i with
   |zero=>
    have hz:(((0:Nat):Int)<(s.length:Int))=True:=wj;have hz0:((0:Nat):Int)=0:=rfl;have hlt:((0:Int)<0)=False:=wl;have hc0:gJ s 0= []:=rfl;have hz1:((0:Int)<(s.length:Int))=True:=wj;have hR:jb s 0=false:=rfl
    by_cases hk0:kind (ch s 0)=2
    all_goals
     simp (disch:=omega) only[qP,List.foldl,jV,i2',zM,hz0,hlt,hc0,hz1,hk0,go_sem,qr,dvP,mdP]
     repeat' first|(refine qj ((.int .i64 0)) ?_;simp (disch:=omega) only[jV,i2',zM,hz0,hlt,hc0,hk0,go_sem,qr,dvP,mdP])|(refine qL (qa2 _ _) ?_ ?_;exact flk;simp (disch:=omega) only[jV,i2',zM,hz0,hlt,hc0,hk0,go_sem,qr,dvP,mdP])|(with_reducible first|intro _|apply aiA)|exact clz|fail
     refine hK _ _ (0+1,v+1,.mem (qo (some O)+1) 4 [.bool (jb s 0)]) ⟨by simp only;omega,rfl⟩ (by simp only;omega) ?_;rw[qcz];simp only[hR,hc0,lna];refine Wk.temps ?_
     (simp only[qP,List.foldl,go_sem,qf,qc,qa,qe];try exact we)
   |succ i=>
    have hx:(((i+1:Nat):Int)-1).toNat=i:=by omega
    have hg:(gJ s (i+1))[i]? =some (.bool (jb s i)):=by simp[gJ]
    have hp:(0<((i+1:Nat):Int))=True:=wj;simp (disch:=omega) only[qP,List.foldl,jV,i2',eL,eT,zM,hx,hg,hp,go_sem,qr,dvP,mdP]
    repeat' first|(refine qL (qa2 _ _) ?_ ?_;exact flk;simp (disch:=omega) only[jV,i2',eL,eT,zM,hx,hg,hp,go_sem,qr,dvP,mdP])|(refine qQ (λe=>⟨?_,qa2 _ _⟩) ?_;exact flk;simp (disch:=omega) only[jV,i2',eL,eT,zM,hx,hg,hp,go_sem,qr,dvP,mdP])|(apply qb;exact rvk;simp only[go_sem])|(with_reducible first|intro _|apply aiA)
    all_goals first
     |omega
     |(simp;done)
     |skip
    refine hK _ _ (i+1+1,v+1,.mem (qo (some O)+1) 4 [.bool (jb s (i+1))]) ⟨by simp only;omega,rfl⟩ (by simp only;omega) ?_;rw[qcz s (i+1)];simp only[jb];refine Wk.temps ?_
    (simp only[qP,List.foldl,go_sem,qf,qc,qa,qe];try exact we)
  ·have e:i=s.length:=by omega
   subst e;simp (disch:=omega) only[qP,List.foldl,eL,go_sem,qr,dvP,mdP]
   repeat' first|(apply qb;exact rvk;simp only[go_sem])|(with_reducible first|intro _|apply aiA)
   all_goals first
    |omega
    |skip
   have hrl:(qbN s).length=s.length:=by simp[qbN]
   unfold qcl;rw[ipo om];refine qrY (qbt s _) hrl (λi c hc=> ?_) (λc hc=> ?_)
   ·have hi:=(lgs.1 hc).1;rw[qbt]at hi;rw[qde hi];simp[gJ,hi]at hc;rw[hc]
   ·simp[gJ]at hc;obtain⟨x,_,rfl⟩:=hc;rfl
end HY
end
section
open Go Go.Proofs AF HY
namespace HY
theorem qcH(s:List UInt8){f i:Nat}(h:f<=i)(hi:i<s.length):(s.drop f).take (i+1-f)=(s.drop f).take (i-f)++ [ch s i]:=by
 rw[show i+1-f=(i-f)+1 by omega,List.take_add_one,List.getElem?_drop,show f+(i-f)=i by omega];simp[ch,gdqA,hi]
theorem qrQ(s:List UInt8){i:Nat}(hi:i<s.length):(s.drop i).take (i+1-i)= [ch s i]:=by
 rw[qcH s (nlr _) hi,Nat.sub_self];rfl
def done(s:List UInt8)(D:List (List UInt8))(f i:Nat):Prop:=qbF s f i∧i<=s.length∧qfk s=D++(W0 f ((s.drop f).take (i-f)) (s.drop i)).map (·.2)
theorem qhL{s:List UInt8}(h:0<s.length):done s [] 0 1:=by
 refine⟨qeI s,h,?_⟩;cases s with
 |nil=>simp at h
 |cons c r=>simp[qfk,zW]
end HY
end
section
open Go Go.Proofs AF HY
namespace HY
theorem qku{s:List UInt8}: ∀(k:Nat) {f i:Nat},s.length-i=k->qbF s f i->i<=s.length->jc ((s.drop f).take (i-f))=jc [ch s f]->
  ((W0 f ((s.drop f).take (i-f)) (s.drop i)).map (·.2)).any jc=(jc [ch s f]||(List.range' i (s.length-i)).any (qab s)):=by
 intro k
 induction k with
 |zero=>
  intro f i hk hc hi hb;have e:i=s.length:=by omega
  subst e;rw[List.drop_length,Nat.sub_self];simp[W0,hb]
 |succ k ih=>
  intro f i hk hc hi hb;have hi':i<s.length:=by omega
  rw[qcn hc.1 hi'];rw[show s.length-i=(s.length-(i+1))+1 by omega,List.range'_succ,List.any_cons];have hr:=qbG hc
  by_cases hg:kind (ch s i)=2∧kind (ch s f)=1
  ·rw[ipo hg];have hrt:jb s i=true:=by rw[hr];simp[hg]
   have hb2:jc ((s.drop f).take (i+1-f))=jc [ch s f]:=by
    rw[<-hb];unfold jc;have e:ch ((s.drop f).take (i+1-f)) 0=ch ((s.drop f).take (i-f)) 0:=by
     have:=hc.1
     simp[ch,gdqA,List.getElem?_take,show 0<i-f by omega,show 0<i+1-f by omega]
    rw[e]
   rw[ih om (qlk hc hrt) hi' hb2]
   have:qab s i=false:=by unfold qab;rw[hrt,hg.1];rfl
   rw[this,Bool.false_or]
  ·rw[ine hg];have hrf:jb s i=false:=by
    rw[hr];cases h2:decide (kind (ch s i)=2)<;>cases h3:decide (kind (ch s f)=1)<;>simp_all
   simp only[List.map_cons,List.any_cons,hb];have h1:(s.drop i).take (i+1-i)= [ch s i]:=qrQ s hi';rw[ih om (qh1 hc hrf) hi' (by rw[h1])]
   have:qab s i=jc [ch s i]:=by unfold qab jc;rw[hrf];simp[ch]
   rw[this]
theorem qoA(s:List UInt8):(qfk s).any jc=(List.range s.length).any (qab s):=by
 cases hs:s with
 |nil=>rfl
 |cons c r=>
  rw[<-hs];have h0:0<s.length:=by rw[hs];simp
  have hd:=qhL h0;have h1:(s.drop 0).take (1-0)= [ch s 0]:=qrQ s h0
  have:=qku (s:=s) _ rfl hd.1 h0 (by rw[h1])
  rw[<-lna ((W0 0 ((s.drop 0).take (1-0)) (s.drop 1)).map (·.2)),<-hd.2.2]at this;rw[this,List.range_eq_range',show s.length=(s.length-1)+1 by omega,List.range'_succ,List.any_cons]
  have:qab s 0=jc [ch s 0]:=by unfold qab jc;simp[jb,ch]
  rw[this];simp
theorem qcm(s:List UInt8):zz s=if 65536<s.length then 4 else if (List.range s.length).any (qab s)=true then 11 else 0:=by unfold zz;rw[qoA]
theorem qae{p:Nat->Bool}{n i:Nat}(hi:i<n)(h:p i=true):(List.range n).any p=true:=List.any_eq_true.2 ⟨i,by simpa using hi,h⟩
theorem UM{p:Nat->Bool}{n:Nat}(h: ∀i,i<n->p i=false):(List.range n).any p=false:=by
 rw[List.any_eq_false];intro i hi;simp at hi;rw[h i hi];simp
theorem qD6(s:List UInt8)(h:wh)(hs:s.length<=1000000000):ACalls Tryz.prog 162 [.str s] h (.int .i64 (zz s)) h:=by
 rw[qcm]
 by_cases hl:65536<s.length
 ·have hl':(65536<(s.length:Int))=True:=wj;rw[ipo hl];refine qF qrl (by simp) ?_;simp only[lco,lnl,Nat.reduceAdd,Nat.reduceSub,List.replicate,lca,lna,lan];simp (disch:=omega) only[qsq,hl',go_sem,qr,dvP,mdP]
  repeat' first|exact wc|fail
 ·have hl':(65536<(s.length:Int))=False:=wl;rw[ine hl];refine qF qrl (by simp) ?_;simp only[lco,lnl,Nat.reduceAdd,Nat.reduceSub,List.replicate,lca,lna,lan];simp (disch:=omega) only[qsq,hl',go_sem,qr,dvP,mdP]
  repeat' first|(refine qL (t95 s _ hs) ?_ ?_;exact flk;simp (disch:=omega) only[hl',qcl,go_sem,qr,dvP,mdP])
  refine qk (T:=λi:Nat=>qP 34 [(0,.str s),(3,qcl (qbN s)),(4,.int .i64 i)]) (H:=λ_=>h) (inv:=λi=>i<=s.length∧ ∀j,j<i->qab s j=false) (m:=λi=>s.length-i) 0 ⟨om,om⟩ (Wk.temps ?_) ?_
  ·(simp only[qcl,qP,List.foldl,go_sem,qf,qc,qa,qe];try exact we)
  ·rintro i ⟨i1,i2⟩ K hK;have hrl:(qbN s).length=s.length:=by simp[qbN]
   by_cases hi:i<s.length
   ·have hg:=qde hi
    by_cases hb:qab s i=true
    ·rw[ipo (qae hi hb)];unfold qab at hb;simp (disch:=omega) only[qP,List.foldl,qcl,hrl,hg,jV,go_sem,qr,dvP,mdP]
     repeat' first|(refine qL (qa2 _ _) ?_ ?_;exact flk;simp (disch:=omega) only[qcl,hrl,hg,jV,go_sem,qr,dvP,mdP])|(apply qh;exact rvk;simp only[go_sem];first|exact qi|apply qg)|(with_reducible first|intro _|apply aiA)|exact clz|fail
     all_goals
      refine hK _ _ (i+1) ⟨om,?_⟩ om (Wk.temps ?_)
      ·exfalso;grind
      ·(simp only[qcl,hrl,qP,List.foldl,go_sem,qf,qc,qa,qe];try exact we)
    ·have hb':qab s i=false:=by simpa using hb
     unfold qab at hb;simp (disch:=omega) only[qP,List.foldl,qcl,hrl,hg,jV,go_sem,qr,dvP,mdP]
     repeat' first|(refine qL (qa2 _ _) ?_ ?_;exact flk;simp (disch:=omega) only[qcl,hrl,hg,jV,go_sem,qr,dvP,mdP])|(apply qh;exact rvk;simp only[go_sem];apply qg)|(with_reducible first|intro _|apply aiA)|exact clz|fail
     all_goals first
      |(exfalso;grind)
      |skip
     all_goals
      refine hK _ _ (i+1) ⟨om,λj hj=> ?_⟩ om (Wk.temps ?_)
      ·by_cases e:j=i
       ·subst e;exact hb'
       ·exact i2 j om
      ·(simp only[qcl,hrl,qP,List.foldl,go_sem,qf,qc,qa,qe];try exact we)
   ·have e:i=s.length:=by omega
    subst e;rw[UM i2];simp (disch:=omega) only[qP,List.foldl,go_sem,qr,dvP,mdP]
    repeat' first|exact wc|(with_reducible first|intro _|apply aiA)|exact clz|fail
end HY
end
section
open Go Go.Proofs AF HY
namespace HY
theorem qh2(b:UInt8):0<=kind b∧kind b<=6:=by
 unfold kind qeN
 (repeat' split)<;>omega
theorem qvY(s:List UInt8)(p:UInt8->Bool):(List.range s.length).any (λi=>p (ch s i))=s.any p:=by
 rw[Bool.eq_iff_iff,List.any_eq_true,List.any_eq_true];constructor
 ·rintro⟨i,hi,h⟩;simp at hi;refine⟨s[i],List.getElem_mem hi,?_⟩;simpa[ch,hi] using h
 ·rintro⟨x,hx,h⟩;obtain⟨i,hi,rfl⟩:=List.mem_iff_getElem.1 hx;exact⟨i,by simpa using hi,by simpa[ch,hi] using h⟩
def spc(c:UInt8):Bool:=decide (kind c=5)||decide (kind c=6)
theorem qaQ(s:List UInt8):ke s=(decide (0<s.length)&&decide (s.length<=64)&&decide (zz s=0)&&(decide (kind (ch s 0)=1)||decide (kind (ch s 0)=3))&& !((List.range s.length).any λi=>spc (ch s i))):=by
 rw[qvY];rfl
theorem t93(s:List UInt8)(h:wh)(hs:s.length<=1000000000):ACalls Tryz.prog 89 [.str s] h (.bool (ke s)) h:=by
 obtain⟨c,hc⟩:=wg (zz s)
 have h118: ∀h:wh,ACalls Tryz.prog 162 [.str s] h (.int .i64 c) h:=λh=>by rw[hc];exact qD6 s h hs
 rw[qaQ,<-hc]
 by_cases g0:0<s.length∧s.length<=64∧c=0∧(kind (ch s 0)=1∨kind (ch s 0)=3)
 ·obtain⟨g1,g2,g3,g4⟩:=g0;have e:(decide (0<s.length)&&decide (s.length<=64)&&decide (c=0)&&(decide (kind (ch s 0)=1)||decide (kind (ch s 0)=3)))=true:=by simp[g1,g2,g3,g4]
  rw[e,Bool.true_and];have k1:((s.length:Int)<1)=False:=wl;have k2:(64<(s.length:Int))=False:=wl;refine qF qk9 (by simp) ?_;simp only[lco,lnl,Nat.reduceAdd,Nat.reduceSub,List.replicate,lca,lna,lan];simp (disch:=omega) only[qvD,k1,k2,go_sem,qr,dvP,mdP]
  repeat' first|(refine qL (qa2 _ _) ?_ ?_;exact flk;simp (disch:=omega) only[k1,k2,g3,jV,go_sem,qr,dvP,mdP])|(refine qQ (λe=>⟨?_,h118 _⟩) ?_;exact flk;simp (disch:=omega) only[k1,k2,g3,jV,go_sem,qr,dvP,mdP])|(apply qh;exact rvk;simp only[go_sem];apply qd)|(with_reducible first|intro _|apply aiA)|exact clz|fail
  refine qk (T:=λi:Nat=>qP 38 [(0,.str s),(4,.int .i64 i)]) (H:=λ_=>h) (inv:=λi=>i<=s.length∧ ∀j,j<i->spc (ch s j)=false) (m:=λi=>s.length-i) 0 ⟨om,om⟩ (Wk.temps ?_) ?_
  ·(simp only[qP,List.foldl,go_sem,qf,qc,qa,qe];try exact we)
  ·rintro i ⟨i1,i2⟩ K hK
   by_cases hi:i<s.length
   ·have hr:=qh2 (ch s i);cases hb:spc (ch s i)with
    |true=>
     rw[qae hi hb];unfold spc at hb;have hk:(4<kind (ch s i))=True:=eqt (by grind);simp (disch:=omega) only[qP,List.foldl,jV,go_sem,qr,dvP,mdP]
     repeat' first|(refine qL (qa2 _ _) ?_ ?_;exact flk;simp (disch:=omega) only[jV,hk,go_sem,qr,dvP,mdP])|(apply qh;exact rvk;simp only[go_sem];first|exact qi|apply qd)|(with_reducible first|intro _|apply aiA)|exact clz|fail
    |false=>
     have hk:(4<kind (ch s i))=False:=eqf (by unfold spc at hb;grind);simp (disch:=omega) only[qP,List.foldl,jV,go_sem,qr,dvP,mdP]
     repeat' first|(refine qL (qa2 _ _) ?_ ?_;exact flk;simp (disch:=omega) only[jV,hk,go_sem,qr,dvP,mdP])|(apply qh;exact rvk;simp only[go_sem];apply qd)|(with_reducible first|intro _|apply aiA)|exact clz|fail
     refine hK _ _ (i+1) ⟨om,λj hj=> ?_⟩ om (Wk.temps ?_)
     ·by_cases e:j=i
      ·subst e;exact hb
      ·exact i2 j om
     ·(simp only[qP,List.foldl,go_sem,qf,qc,qa,qe];try exact we)
   ·have e:i=s.length:=by omega
    subst e;rw[UM i2];simp (disch:=omega) only[qP,List.foldl,go_sem,qr,dvP,mdP]
    repeat' first|exact wc|(with_reducible first|intro _|apply aiA)|exact clz|fail
 ·have e:(decide (0<s.length)&&decide (s.length<=64)&&decide (c=0)&&(decide (kind (ch s 0)=1)||decide (kind (ch s 0)=3)))=false:=by
   rw[Bool.eq_false_iff];intro h;simp only[Bool.and_eq_true,Bool.or_eq_true,decide_eq_true_eq]at h;exact g0 ⟨h.1.1.1,h.1.1.2,h.1.2,h.2⟩
  rw[e,Bool.false_and]
  by_cases g1:0<s.length
  ·by_cases g2:s.length<=64
   ·have k1:((s.length:Int)<1)=False:=wl;have k2:(64<(s.length:Int))=False:=wl
    by_cases g3:c=0
    ·have g4: ¬kind (ch s 0)=1∧ ¬kind (ch s 0)=3:=by
      constructor
      ·intro h;exact g0 ⟨g1,g2,g3,.inl h⟩
      ·intro h;exact g0 ⟨g1,g2,g3,.inr h⟩
     have g5:=g4.1;have g6:=g4.2;refine qF qk9 (by simp) ?_;simp only[lco,lnl,Nat.reduceAdd,Nat.reduceSub,List.replicate,lca,lna,lan];simp (disch:=omega) only[qvD,k1,k2,go_sem,qr,dvP,mdP]
     repeat' first|(refine qL (qa2 _ _) ?_ ?_;exact flk;simp (disch:=omega) only[k1,k2,g3,jV,g5,g6,go_sem,qr,dvP,mdP])|(refine qQ (λe=>⟨?_,h118 _⟩) ?_;exact flk;simp (disch:=omega) only[k1,k2,g3,jV,g5,g6,go_sem,qr,dvP,mdP])|exact wc|with_reducible apply aiA|exact clz|fail
    ·refine qF qk9 (by simp) ?_;simp only[lco,lnl,Nat.reduceAdd,Nat.reduceSub,List.replicate,lca,lna,lan];simp (disch:=omega) only[qvD,k1,k2,go_sem,qr,dvP,mdP]
     repeat' first|(refine qQ (λe=>⟨?_,h118 _⟩) ?_;exact flk;simp (disch:=omega) only[k1,k2,g3,jV,go_sem,qr,dvP,mdP])|exact wc|fail
   ·have k1:((s.length:Int)<1)=False:=wl;have k2:(64<(s.length:Int))=True:=wj;refine qF qk9 (by simp) ?_;simp only[lco,lnl,Nat.reduceAdd,Nat.reduceSub,List.replicate,lca,lna,lan];simp (disch:=omega) only[qvD,k1,k2,go_sem,qr,dvP,mdP]
    repeat' first|(refine qj ((.int .i64 0)) ?_;simp (disch:=omega) only[k1,k2,go_sem,qr,dvP,mdP])|exact wc|fail
  ·have k1:((s.length:Int)<1)=True:=wj;refine qF qk9 (by simp) ?_;simp only[lco,lnl,Nat.reduceAdd,Nat.reduceSub,List.replicate,lca,lna,lan];simp (disch:=omega) only[qvD,k1,go_sem,qr,dvP,mdP]
   repeat' first|(refine qj ((.int .i64 0)) ?_;simp (disch:=omega) only[k1,go_sem,qr,dvP,mdP])|exact wc|fail
end HY
end
section
open Go Go.Proofs AF HY
namespace LN
def ld(c:UInt8):Bool:=decide (kind c=1)||decide (kind c=3)
theorem t66(s:List UInt8)(h:wh)(hs:s.length<=1000000000):ACalls Tryz.prog 253 [.str s] h (.int .i64 ((s.countP ld:Nat):Int)) h:=by
 refine qF qyP (by simp) ?_;simp only[lco,lnl,Nat.reduceAdd,Nat.reduceSub,List.replicate,lca,lna,lan];simp (disch:=omega) only[qwO,go_sem];refine qk (T:=λi:Nat=>qP 25 [(0,.str s),(3,.int .i64 (((s.take i).countP ld:Nat):Int)),(7,.int .i64 s.length),(8,.int .i64 i)]) (H:=λ_=>h) (inv:=λi=>i<=s.length) (m:=λi=>s.length-i) 0 om (Wk.temps ?_) ?_
 ·(simp only[qP,List.foldl,go_sem,qf,qc,qa,qe];try exact we)
 ·rintro i i1 K hK
  by_cases hi:i<s.length
  ·obtain⟨c,hc⟩:=wg (s.getD i 0)
   have e1:(s[i]?).getD 0=c:=by rw[hc,gdqA]
   have e2:s.take (i+1)=s.take i++ [c]:=by rw[List.take_add_one,hc,gdqA,zD hi];rfl
   have hb:=c.toNat_lt;have c92:=λh=>qFa (c.toNat:Int) h om om
   have hn:(s.take i).countP ld<=s.length:=Nat.le_trans List.countP_le_length (by simp;omega);obtain⟨n,hN⟩:=wg ((s.take i).countP ld)
   rw[<-hN]at hn ⊢;obtain⟨k,hk⟩:=wg (qeN (c.toNat:Int))
   have hk':k=kind c:=hk;rw[<-hk]at c92;have e3:(s.take (i+1)).countP ld=n+if ld c=true then 1 else 0:=by
    rw[e2,List.countP_append,<-hN];simp[List.countP_cons]
   by_cases g1:k=1
   ·have k1:(k=1)=True:=eqt g1;have g:ld c=true:=by unfold ld;rw[<-hk',g1];rfl
    rw[ipo g]at e3;simp (disch:=omega) only[qP,List.foldl,e1,go_sem]
    repeat' first|(refine qL (c92 _) ?_ ?_;exact flk;simp (disch:=omega) only[k1,go_sem,qr])|(apply qh;exact rvk;simp only[go_sem];apply qg)|(with_reducible first|intro _|apply aiA)|exact clz|fail
    refine hK _ _ (i+1) om om (Wk.temps ?_);rw[e3]
    (simp only[qP,List.foldl,go_sem,qf,qc,qa,qe];try exact we)
   ·have k1:(k=1)=False:=eqf g1
    by_cases g2:k=3
    ·have k2:(k=3)=True:=eqt g2;have g:ld c=true:=by unfold ld;rw[<-hk',g2];rfl
     rw[ipo g]at e3;simp (disch:=omega) only[qP,List.foldl,e1,go_sem]
     repeat' first|(refine qL (c92 _) ?_ ?_;exact flk;simp (disch:=omega) only[k1,k2,go_sem,qr])|(apply qh;exact rvk;simp only[go_sem];apply qg)|(with_reducible first|intro _|apply aiA)|exact clz|fail
     refine hK _ _ (i+1) om om (Wk.temps ?_);rw[e3]
     (simp only[qP,List.foldl,go_sem,qf,qc,qa,qe];try exact we)
    ·have k2:(k=3)=False:=eqf g2;have g: ¬ld c=true:=by unfold ld;rw[<-hk',dqf g1,dqf g2];simp
     rw[ine g]at e3;simp (disch:=omega) only[qP,List.foldl,e1,go_sem]
     repeat' first|(refine qL (c92 _) ?_ ?_;exact flk;simp (disch:=omega) only[k1,k2,go_sem,qr])|(apply qh;exact rvk;simp only[go_sem];apply qg)|(with_reducible first|intro _|apply aiA)|exact clz|fail
     refine hK _ _ (i+1) om om (Wk.temps ?_);rw[e3,Nat.add_zero]
     (simp only[qP,List.foldl,go_sem,qf,qc,qa,qe];try exact we)
  ·have e:i=s.length:=by omega
   subst e;rw[List.take_length];simp (disch:=omega) only[qP,List.foldl,go_sem]
   repeat' first|exact wc|(with_reducible first|intro _|apply aiA)|exact clz|fail
def f6(s:List UInt8):Bool:=decide (s≠ [])&&(decide (s.length<=16)&&decide (s.countP ld=s.length))
theorem t44(s:List UInt8)(h:wh)(hs:s.length<=1000000000):ACalls Tryz.prog 181 [.str s] h (.bool (f6 s)) h:=by
 have c66:=λh=>t66 s h hs
 unfold f6
 by_cases g1:s= []
 ·have k1:(s= [])=True:=eqt g1;rw[dqf (show¬s≠ []from λhc=>hc g1)];refine qF qgK (by simp) ?_;simp only[lco,lnl,Nat.reduceAdd,Nat.reduceSub,List.replicate,lca,lna,lan];simp (disch:=omega) only[qj0,k1,go_sem]
  repeat' first|(refine qj ((.int .i64 0)) ?_;simp (disch:=omega) only[go_sem])|exact wc|(with_reducible first|intro _|apply aiA)|exact clz|fail
 ·have k1:(s= [])=False:=eqf g1;rw[dqt (show s≠ []from g1)]
  by_cases g2:s.length<=16
  ·have k2:((s.length:Int)<=16)=True:=wj;rw[dqt g2]
   by_cases g3:s.countP ld=s.length
   ·have k3:(((s.countP ld:Nat):Int)=s.length)=True:=wj;rw[dqt g3];refine qF qgK (by simp) ?_;simp only[lco,lnl,Nat.reduceAdd,Nat.reduceSub,List.replicate,lca,lna,lan];simp (disch:=omega) only[qj0,k1,k2,go_sem]
    repeat' first|(refine qQ (λe=>⟨?_,c66 _⟩) ?_;exact flk;simp (disch:=omega) only[k3,go_sem])|exact wc|fail
   ·have k3:(((s.countP ld:Nat):Int)=s.length)=False:=wl;rw[dqf g3];refine qF qgK (by simp) ?_;simp only[lco,lnl,Nat.reduceAdd,Nat.reduceSub,List.replicate,lca,lna,lan];simp (disch:=omega) only[qj0,k1,k2,go_sem]
    repeat' first|(refine qQ (λe=>⟨?_,c66 _⟩) ?_;exact flk;simp (disch:=omega) only[k3,go_sem])|exact wc|fail
  ·have k2:((s.length:Int)<=16)=False:=wl;rw[dqf g2];refine qF qgK (by simp) ?_;simp only[lco,lnl,Nat.reduceAdd,Nat.reduceSub,List.replicate,lca,lna,lan];simp (disch:=omega) only[qj0,k1,k2,go_sem]
   repeat' first|(refine qj ((.int .i64 0)) ?_;simp (disch:=omega) only[go_sem])|exact wc|fail
theorem t77(s:List UInt8)(h:wh)(hs:s.length<=1000000000):ACalls Tryz.prog 210 [.str s] h (.int .i64 ((s.countP ld:Nat):Int)) h:=by
 refine qF qyt (by simp) ?_;simp only[lco,lnl,Nat.reduceAdd,Nat.reduceSub,List.replicate,lca,lna,lan];simp (disch:=omega) only[qws,go_sem];refine qk (T:=λi:Nat=>qP 25 [(0,.str s),(3,.int .i64 (((s.take i).countP ld:Nat):Int)),(4,.int .i64 i)]) (H:=λ_=>h) (inv:=λi=>i<=s.length) (m:=λi=>s.length-i) 0 om (Wk.temps ?_) ?_
 ·(simp only[qP,List.foldl,go_sem,qf,qc,qa,qe];try exact we)
 ·rintro i i1 K hK
  by_cases hi:i<s.length
  ·obtain⟨c,hc⟩:=wg (s.getD i 0)
   have e1:(s[i]?).getD 0=c:=by rw[hc,gdqA]
   have e2:s.take (i+1)=s.take i++ [c]:=by rw[List.take_add_one,hc,gdqA,zD hi];rfl
   have c55:=λh=>qFc (c.toNat:Int) h
   have hn:(s.take i).countP ld<=s.length:=Nat.le_trans List.countP_le_length (by simp;omega);obtain⟨n,hN⟩:=wg ((s.take i).countP ld)
   rw[<-hN]at hn ⊢;obtain⟨k,hk⟩:=wg (qeN (c.toNat:Int))
   have hk':k=kind c:=hk;rw[<-hk]at c55;have e3:(s.take (i+1)).countP ld=n+if ld c=true then 1 else 0:=by
    rw[e2,List.countP_append,<-hN];simp[List.countP_cons]
   have q0:((i:Int)<s.length)=True:=wj
   by_cases g1:k=1
   ·have k1:(k=1)=True:=eqt g1;have g:ld c=true:=by unfold ld;rw[<-hk',g1];rfl
    rw[ipo g]at e3;simp (disch:=omega) only[qP,List.foldl,e1,q0,go_sem]
    repeat' first|(refine qL (c55 _) ?_ ?_;exact flk;simp (disch:=omega) only[k1,go_sem,qr])|with_reducible apply aiA|exact clz|fail
    refine hK _ _ (i+1) om om (Wk.temps ?_);rw[e3]
    (simp only[qP,List.foldl,go_sem,qf,qc,qa,qe];try exact we)
   ·have k1:(k=1)=False:=eqf g1
    by_cases g2:k=3
    ·have k2:(k=3)=True:=eqt g2;have g:ld c=true:=by unfold ld;rw[<-hk',g2];rfl
     rw[ipo g]at e3;simp (disch:=omega) only[qP,List.foldl,e1,q0,go_sem]
     repeat' first|(refine qL (c55 _) ?_ ?_;exact flk;simp (disch:=omega) only[k1,k2,go_sem,qr])|with_reducible apply aiA|exact clz|fail
     refine hK _ _ (i+1) om om (Wk.temps ?_);rw[e3]
     (simp only[qP,List.foldl,go_sem,qf,qc,qa,qe];try exact we)
    ·have k2:(k=3)=False:=eqf g2;have g:ld c=false:=by unfold ld;rw[<-hk',dqf g1,dqf g2];rfl
     rw[ine (by rw[g];simp)]at e3;simp (disch:=omega) only[qP,List.foldl,e1,q0,go_sem]
     repeat' first|(refine qL (c55 _) ?_ ?_;exact flk;simp (disch:=omega) only[k1,k2,go_sem,qr])|with_reducible apply aiA|exact clz|fail
     refine hK _ _ (i+1) om om (Wk.temps ?_);rw[e3]
     (simp only[qP,List.foldl,go_sem,qf,qc,qa,qe];try exact we)
  ·have e:i=s.length:=by omega
   subst e;rw[List.take_length];have q0:((s.length:Int)<s.length)=False:=wl;simp (disch:=omega) only[qP,List.foldl,q0,go_sem]
   repeat' first|exact wc|fail
theorem qly{s:List UInt8}(h1:s≠ [])(h2:s.length<=16)(h3:s.countP ld=s.length):ke s=true:=by
 have hall: ∀c∈s,ld c=true:=List.countP_eq_length.1 h3;have hch: ∀i,i<s.length->kind (ch s i)=1∨kind (ch s i)=3:=by
  intro i hi;have hm:ch s i∈s:=by
   have e:ch s i=s[i]:=by simp[ch,hi]
   rw[e];exact List.getElem_mem hi
  have:=hall _ hm
  unfold ld at this;simpa using this
 have hp:0<s.length:=List.length_pos_iff.2 h1;have hc:zz s=0:=by
  rw[qcm,ine om,ine];rw[List.any_eq_true];rintro⟨i,hi,hb⟩
  have:=hch i (List.mem_range.1 hi)
  unfold qab at hb;rcases this with h|h<;>rw[h]at hb<;>simp at hb
 rw[qaQ,dqt hp,dqt (show s.length<=64 by omega),dqt hc];have h0:=hch 0 hp;have e0:(decide (kind (ch s 0)=1)||decide (kind (ch s 0)=3))=true:=by simpa using h0
 rw[e0];have ea:((List.range s.length).any λi=>spc (ch s i))=false:=by
  rw[List.any_eq_false];intro i hi
  have:=hch i (List.mem_range.1 hi)
  unfold spc;rcases this with h|h<;>rw[h]<;>decide
 rw[ea];rfl
theorem t53(s:List UInt8)(h:wh)(hs:s.length<=1000000000):ACalls Tryz.prog 136 [.str s] h (.bool (f6 s)) h:=by
 have c76:=λh=>t93 s h hs
 have c77:=λh=>t77 s h hs
 unfold f6
 by_cases g2:s.length<=16
 ·have k2:((s.length:Int)<=16)=True:=wj;rw[dqt g2,Bool.true_and]
  by_cases g3:s.countP ld=s.length
  ·have k3:((s.countP ld:Int)=s.length)=True:=wj;rw[dqt g3,Bool.and_true]
   by_cases g1:s= []
   ·rw[dqf (λhc=>hc g1)];have hw:ke s=false:=by subst g1;rw[qaQ];rfl
    rw[hw]at c76;refine qF qeC (by simp) ?_;simp only[lco,lnl,Nat.reduceAdd,Nat.reduceSub,List.replicate,lca,lna,lan];simp (disch:=omega) only[qhz,k2,go_sem]
    repeat' first|(refine qj ((.int .i64 0)) ?_;simp (disch:=omega) only[go_sem])|(refine qQ (λe=>⟨?_,c76 _⟩) ?_;exact flk;simp (disch:=omega) only[go_sem])|exact wc|fail
   ·rw[dqt g1];rw[qly g1 g2 g3]at c76;refine qF qeC (by simp) ?_;simp only[lco,lnl,Nat.reduceAdd,Nat.reduceSub,List.replicate,lca,lna,lan];simp (disch:=omega) only[qhz,k2,go_sem]
    repeat' first|((first|refine qQ (λe=>⟨?_,c76 _⟩) ?_|refine qQ (λe=>⟨?_,c77 _⟩) ?_);exact flk;simp (disch:=omega) only[k3,go_sem])|exact wc|fail
  ·have k3:((s.countP ld:Int)=s.length)=False:=wl;rw[dqf g3,Bool.and_false];cases hw:ke s with
   |false=>
    rw[hw]at c76;refine qF qeC (by simp) ?_;simp only[lco,lnl,Nat.reduceAdd,Nat.reduceSub,List.replicate,lca,lna,lan];simp (disch:=omega) only[qhz,k2,go_sem]
    repeat' first|(refine qj ((.int .i64 0)) ?_;simp (disch:=omega) only[go_sem])|(refine qQ (λe=>⟨?_,c76 _⟩) ?_;exact flk;simp (disch:=omega) only[go_sem])|exact wc|fail
   |true=>
    rw[hw]at c76;refine qF qeC (by simp) ?_;simp only[lco,lnl,Nat.reduceAdd,Nat.reduceSub,List.replicate,lca,lna,lan];simp (disch:=omega) only[qhz,k2,go_sem]
    repeat' first|((first|refine qQ (λe=>⟨?_,c76 _⟩) ?_|refine qQ (λe=>⟨?_,c77 _⟩) ?_);exact flk;simp (disch:=omega) only[k3,go_sem])|exact wc|fail
 ·have k2:((s.length:Int)<=16)=False:=wl;rw[dqf g2,Bool.false_and,Bool.and_false];refine qF qeC (by simp) ?_;simp only[lco,lnl,Nat.reduceAdd,Nat.reduceSub,List.replicate,lca,lna,lan];simp (disch:=omega) only[qhz,k2,go_sem]
  repeat' first|(refine qj ((.bool false)) ?_;simp (disch:=omega) only[go_sem])|exact wc|fail
end LN
end
section
open Go Go.Proofs AF HY
namespace HY
theorem qFb(s:List UInt8)(f a:Nat)(h:wh)(hf:f<s.length):ACalls Tryz.prog 336 [.str s,.int .i64 f,.int .i64 a] h (.bool (decide (kind (ch s f)=1)&&decide (f<a))) h:=by
 refine qF qzf (by simp) ?_;simp only[lco,lnl,Nat.reduceAdd,Nat.reduceSub,List.replicate,lca,lna,lan];simp (disch:=omega) only[qw9,jV,go_sem]
 repeat' first|(refine qL (qbY _ _) ?_ ?_;exact flk;simp (disch:=omega) only[go_sem])|(apply qh;exact rvk;simp only[go_sem];apply qd)|with_reducible apply aiA
 all_goals first
  |omega
  |(congr 1;exact decide_eq_decide.2 om)
  |skip
theorem qDD(s:List UInt8)(hs:s.length<=1000000000):qnH Tryz.prog 335 [.ip [.str s]] ((zW s).map λx=> [.int .i64 (x.1:Int),.str x.2]):=by
 intro h ts L S E hS hE body start hts;refine qbe qze (by simp) ?_;simp only[lco,lnl,Nat.reduceAdd,Nat.reduceSub,List.replicate,lca,lna,lan];simp (disch:=omega) only[qw8,go_sem]
 all_goals first
  |omega
  |skip
 refine qk (T:=λi:Nat×Nat×Nat×wh=>qP 37 [(0,.yld h.length),(1,.ip [.str s]),(3,.int .i64 i.1),(4,.int .i64 i.2.1)]) (H:=λi=>i.2.2.2++ [.lp .ready ts L])
  (inv:=λi=>S i.2.2.1 i.2.2.2∧((i.2.1<=s.length∧i.1<i.2.1∧(zW s).drop i.2.2.1=W0 i.1 ((s.drop i.1).take (i.2.1-i.1)) (s.drop i.2.1))∨(s.length<i.2.1∧i.2.1<=s.length+1∧i.2.2.1=(zW s).length))) (m:=λi=>s.length+1-i.2.1) (0,1,0,h) ⟨start,?_⟩ (Wk.temps ?_) ?_
 ·simp only;cases s with
  |nil=>right;simp[zW]
  |cons c r=>left;simp[zW]
 ·(simp only[qP,List.foldl,go_sem,qf,qc,qe];try exact we)
 ·rintro⟨f,i,j,hh⟩ ⟨i1,i2⟩ K hK;simp only at i1 i2 hK;obtain⟨hlen,hlow⟩:=hS _ _ i1;rcases i2 with⟨g1,g2,g3⟩|⟨g1,g2,rfl⟩
  ·have hjl:j<(zW s).length:=by
    have:(zW s).drop j≠ []:=by rw[g3];exact qoz _ _ _
    by_cases hj:j<(zW s).length
    ·exact hj
    ·exact absurd (List.drop_of_length_le om) this
   by_cases hk:i<s.length∧kind (ch s i)=2∧kind (ch s f)=1
   ·have hst:=qcn g2 hk.1;rw[ipo hk.2]at hst;simp (disch:=omega) only[qP,List.foldl,jV,go_sem]
    repeat' first|((first|refine qQ (λe=>⟨?_,qbY _ _⟩) ?_|refine qQ (λe=>⟨?_,qFb s f i _ om⟩) ?_);exact flk;simp (disch:=omega) only[hk.2.1,hk.2.2,go_sem,qr])|(with_reducible first|intro _|apply aiA)
    all_goals first
     |omega
     |skip
    refine hK _ _ (f,i+1,j,hh) ⟨i1,.inl ⟨by simp only;omega,by simp only;omega,by rw[g3,hst]⟩⟩ (by simp only;omega) (Wk.temps ?_)
    (simp only[qP,List.foldl,go_sem,qf,qc,qa,qe];try exact we)
   ·obtain⟨rest,hrest,hr1⟩: ∃rest,(zW s).drop j=(f,(s.drop f).take (i-f))::rest∧(if i<s.length then rest=W0 i ((s.drop i).take (i+1-i)) (s.drop (i+1)) else rest= []):=by
     by_cases hi:i<s.length
     ·have hst:=qcn g2 hi;rw[ine (λh=>hk ⟨hi,h⟩)]at hst;exact⟨_,g3.trans hst,by rw[ipo hi]⟩
     ·refine⟨[],?_,by rw[ine hi]⟩;rw[g3,show s.drop i= []from List.drop_of_length_le om];rfl
    rw[List.drop_eq_getElem_cons hjl]at hrest;obtain⟨hget,hdrop⟩:=List.cons.inj hrest;have hb:=body j hh [] (by simpa using hjl) i1;rw[List.getElem_map,hget]at hb;simp only at hb;have hfit:(i:Int)-f=((i-f:Nat):Int):=by omega
    simp (disch:=omega) only[qP,List.foldl,jV,go_sem]
    repeat' first|((first|refine qQ (λe=>⟨?_,qbY _ _⟩) ?_|refine qQ (λe=>⟨?_,qFb s f i _ om⟩) ?_);exact flk;simp (disch:=omega) only[go_sem,qr])|(with_reducible first|intro _|apply aiA)
    all_goals first
     |omega
     |exact⟨.ready,ts,L,kT hlen⟩
     |skip
    refine kr.mono ?_ hb;rintro v h' ⟨hh',⟨rfl,hn,rfl⟩|⟨st,rfl,hs',rfl⟩⟩
    ·simp (disch:=omega) only[go_sem,qr]
     all_goals first
      |omega
      |(rename_i hx;revert hx;simp;done)
      |skip
     by_cases hi:i<s.length
     ·rw[ipo hi]at hr1;refine hK _ _ (i,i+1,j+1,hh') ⟨hn,.inl ⟨by simp only;omega,by simp only;omega,by simp only;rw[hdrop,hr1]⟩⟩ (by simp only;omega) (Wk.temps ?_)
      (simp only[qP,List.foldl,go_sem,qf,qc,qa,qe];try exact we)
     ·rw[ine hi]at hr1;refine hK _ _ (i,i+1,j+1,hh') ⟨hn,.inr ⟨by simp only;omega,by simp only;omega,?_⟩⟩ (by simp only;omega) (Wk.temps ?_)
      ·have:((zW s).drop (j+1)).length=0:=by rw[hdrop,hr1];rfl
       rw[List.length_drop]at this;simp only;omega
      ·(simp only[qP,List.foldl,go_sem,qf,qc,qa,qe];try exact we)
    ·simp (disch:=omega) only[go_sem,qr];obtain⟨r1,r2⟩:=(hE _ _ hs').ret (L:=L) st hts;exact qgN trivial r1 r2 ⟨_,.inr ⟨st,hs',rfl⟩⟩ (qi)
  ·simp (disch:=omega) only[qP,List.foldl,go_sem]
   repeat' first|(with_reducible first|intro _|apply aiA)
   all_goals first
    |omega
    |skip
   obtain⟨r1,r2⟩:=(hS _ _ i1).ret (L:=L) .ready hts;exact jN trivial r1 r2 ⟨hh,.inl ⟨by simpa using i1,rfl⟩⟩ (qi)
def qkt(s:List UInt8):AV:= .fn (.func 335) [] [.ip [.str s]]
def qew(s:List UInt8):List wi:=(zW s).map λx=> [.int .i64 (x.1:Int),.str x.2]
theorem qex(s:List UInt8):(qew s).length=(qfk s).length:=by simp[qew,qfk]
theorem qkw(s:List UInt8){i:Nat}(hi:i<(qew s).length): ∃n:Nat,(qew s)[i]= [.int .i64 (n:Int),.str ((qfk s).getD i [])]:=by
 have h1:i<(zW s).length:=by simpa[qew] using hi
 refine⟨((zW s)[i]).1,?_⟩;simp[qew,qfk,gdqA,h1]
theorem t91(s:List UInt8)(h:wh):ACalls Tryz.prog 280 [.str s] h (qkt s) h:=by
 refine qF qyX (by simp) ?_;simp only[lco,lnl,Nat.reduceAdd,Nat.reduceSub,List.replicate,lca,lna];simp (disch:=omega) only[qwU,go_sem]
 repeat' first|exact wa|fail
theorem qhQ(s:List UInt8):(qkt s).flag=true:=rfl
theorem qf7(s:List UInt8):(qkt s).strip=qkt s:=rfl
attribute [go_sem] qhQ qf7
theorem _root_.AF.LowI.app{h a b:wh}(e:b.length=a.length)(hb: ∀o∈b,o∈a∨(lowO (h.length+a.length) o∧lowO (h.length+a.length+1) o)):LowI (h++a) (h++b):=by
 refine⟨by simp[e],λo ho=> ?_⟩;rw[lap];rcases List.mem_append.1 ho with ho|ho
 ·exact .inl (List.mem_append_left _ ho)
 ·rcases hb o ho with h1|h1
  ·exact .inl (List.mem_append_right _ h1)
  ·exact .inr h1
theorem qm5(l:List (List UInt8)){i:Nat}(h:i<l.length):l.take (i+1)=l.take i++ [l.getD i []]:=by
 rw[List.take_add_one,zD h];simp[gdqA,h]
theorem qdo{l:List (List UInt8)}{p:List UInt8->Bool}{i:Nat}(h:i<l.length):(l.take (i+1)).any p=((l.take i).any p||p (l.getD i [])):=by
 rw[qm5 l h,List.any_append];simp
theorem qvX{l:List (List UInt8)}{p:List UInt8->Bool}{i:Nat}(h:i<l.length)(hp:p (l.getD i [])=true):l.any p=true:=by
 rw[List.any_eq_true];refine⟨l.getD i [],?_,hp⟩;rw[gdqA,zD h];exact List.getElem_mem h
theorem qsX{s:List UInt8}{i:Nat}(h:i<(qfk s).length):0<((qfk s).getD i []).length:=by
 apply List.length_pos_iff.2;apply qsY (s:=s);rw[gdqA,zD h];exact List.getElem_mem h
set_option maxHeartbeats 4000000 in
theorem qD5(s:List UInt8)(h:wh)(hs:s.length<=1000000000):ACalls Tryz.prog 219 [.str s] h (.int .i64 (zz s)) h:=by
 have hit:=qDD s hs;unfold zz
 by_cases hl:65536<s.length
 ·have hl':(65536<(s.length:Int))=True:=wj;rw[ipo hl];refine qF qrp (by simp) ?_;simp only[lco,lnl,Nat.reduceAdd,Nat.reduceSub,List.replicate,lca,lna];simp (disch:=omega) only[qst,hl',go_sem]
  repeat' first|exact wa|fail
  all_goals trace_state
 ·have hl':(65536<(s.length:Int))=False:=wl;rw[ine hl];refine qF qrp (by simp) ?_;simp only[lco,lnl,Nat.reduceAdd,Nat.reduceSub,List.replicate,lca,lna];simp (disch:=omega) only[qst,hl',go_sem]
  repeat' first|(refine qL (t91 s _) ?_ ?_;exact flk;simp (disch:=omega) only[go_sem])
  refine qie (xs:=qew s) hit (by intro a ha;simp[qew]at ha;obtain⟨_,_,_,rfl⟩:=ha;rfl)
   (S:=λi hh=>hh=h++ [.mem 1 28 [.int .i64 0]]∧((qfk s).take i).any jc=false)
   (E:=λe hh=>e= .ret∧hh=h++ [.mem 1 28 [.int .i64 11]]∧(qfk s).any jc=true) ?_ ?_ ?_ ?_ ?_ ?_ ?_
  ·rintro i hh ⟨rfl,_⟩;exact LowI.refl _
  ·rintro e hh ⟨_,rfl,_⟩;refine LowI.app rfl (λo ho=> ?_);simp only[List.mem_cons,List.not_mem_nil,or_false]at ho;subst ho;right;constructor<;>(intro c hc;simp at hc;subst hc;rfl)
  ·exact⟨rfl,by simp⟩
  ·simp[qV,qV.lowVs,qkt]
   try omega
  ·rintro i hh tl L hi ⟨rfl,hno⟩ hlen;obtain⟨n,hx⟩:=qkw s hi;rw[qex]at hi;rw[hx];have hnx:=qdo (p:=jc) hi;rw[hno,Bool.false_or]at hnx;have hat:=qvX (p:=jc) hi;obtain⟨c,hc⟩:=wg ((qfk s).getD i [])
   have hcl:=qsX hi;rw[<-hc]at hcl hnx hat ⊢;simp only[kN];simp (disch:=omega) only[List.append_assoc,eq_self,jV,go_sem]
   repeat' first|(refine qL (qbY _ _) ?_ ?_;exact flk;simp (disch:=omega) only[eq_self,go_sem])|(with_reducible first|intro _|apply aiA)|exact clz|fail
   ·rename_i hx;exact⟨h++ [.mem 1 28 [.int .i64 11]],by simp,by simp,by simp,hat (by unfold jc;simpa using hx)⟩
   ·rename_i hx;exact⟨h++ [.mem 1 28 [.int .i64 0]],by simp,by simp,by simp,by rw[hnx];unfold jc;simpa using hx⟩
  ·rintro hh ⟨rfl,hno⟩;rw[qex,List.take_length]at hno;rw[hno];simp (disch:=omega) only[go_sem]
   repeat' first|exact wa|fail
   all_goals trace_state
  ·rintro e hh ⟨rfl,rfl,hb⟩;rw[hb];show Ex.inBlock 0 _ .ret _ _;simp (disch:=omega) only[go_sem]
   repeat' first|exact wa|fail
   all_goals trace_state
end HY
end
