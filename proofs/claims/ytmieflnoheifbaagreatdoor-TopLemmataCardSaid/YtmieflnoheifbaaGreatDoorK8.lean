import Derived.KernelRfl
import Derived.Test.YtmieflnoheifbaaGreatDoorK7
import Derived.Test.YtmieflnoheifbaaGreatDoorK5
import Derived.Test.YtmieflnoheifbaaGreatDoorK3
import Derived.Test.YtmieflnoheifbaaGreatDoorProg
import Derived.Test.YtmieflnoheifbaaGreatDoorK4
set_option linter.all false
set_option maxRecDepth 100000
section
namespace AF
open Go
theorem fi{P:Program}{f:Nat}(fn:Func)(js:List Tmp)(imp:List FuncId)(wks:List Nat){nt ns:Nat}{rs:List RV}{c:C}(h1:P.funcs[f]? =some fn:=by kernel_rfl)
  (h2 : (fn.body.isSome && (fn.name != "runtime.NumGoroutine")) = true := by kernel_rfl) (h3 : (fn.ntmps, js.length) = (nt, ns) := by kernel_rfl) (h4 : (qhF P fn.results.toList, cv P js imp wks (fn.body.getD .skip)) = (some rs, some c) := by kernel_rfl) : qK P f nt ns rs c := by
 cases hb:fn.body with
 |none=>rw[hb]at h2;cases h2
 |some body=>
  rw[hb]at h2 h4;cases h3;simp only[Prod.mk.injEq]at h4;exact⟨fn,body,js,imp,wks,h1,hb,by simpa using h2,rfl,rfl,h4.1,h4.2⟩
def qbF(p:Nat->Bool):Nat->Nat->Int
 |0,_=> -1
 |k+1,i=>if p i=true then i else qbF p k (i+1)
theorem qey{p:Nat->Bool}{n i:Nat}(hi:i<=n)(h: ∀j,j<i->p j=false):qbF p n 0=qbF p (n-i) i:=by
 induction i with
 |zero=>rfl
 |succ i ih=>
  rw[ih om (λj hj=>h j om),show n-i=(n-(i+1))+1 by omega];simp only[qbF,h i om,Bool.false_eq_true,if_false]
theorem qbG{p:Nat->Bool}{n i:Nat}(hi:i<n)(h: ∀j,j<i->p j=false)(hp:p i=true):qbF p n 0=i:=by
 rw[qey om h,show n-i=(n-i-1)+1 by omega];unfold qbF;rw[hp];rfl
theorem qb4{p:Nat->Bool}{n:Nat}(h: ∀j,j<n->p j=false):qbF p n 0= -1:=by
 rw[qey (nlr n) h,Nat.sub_self];rfl
theorem zT(p:Nat->Bool)(n:Nat):(∃i,i<n∧p i=true∧(∀j,j<i->p j=false)∧qbF p n 0=i)∨((∀j,j<n->p j=false)∧qbF p n 0= -1):=by
 induction n with
 |zero=>exact .inr ⟨λj hj=>by omega,rfl⟩
 |succ n ih=>
  by_cases h: ∃i,i<n+1∧p i=true
  ·rcases ih with⟨i,h1,h2,h3,h4⟩|⟨h1,h2⟩
   ·exact .inl ⟨i,om,h2,h3,qbG om h3 h2⟩
   ·obtain⟨i,h3,h4⟩:=h;have e:i=n:=by
     by_cases e:i<n
     ·rw[h1 i e]at h4;cases h4
     ·omega
    subst e;exact .inl ⟨i,h3,h4,h1,qbG h3 h1 h4⟩
  ·refine .inr ?_;have h': ∀j,j<n+1->p j=false:=λj hj=>by
    cases e:p j with
    |false=>rfl
    |true=>exact absurd ⟨j,hj,e⟩ h
   exact⟨h',qb4 h'⟩
def jK(p:Nat->Bool)(n:Nat):Bool:=decide (0<=qbF p n 0)
theorem qZ{p:Nat->Bool}{n:Nat}:jK p n=true↔ ∃i,i<n∧p i=true:=by
 unfold jK;rw[decide_eq_true_iff];rcases zT p n with⟨i,h1,h2,_,h4⟩|⟨h1,h2⟩
 ·rw[h4];exact⟨λ_=>⟨i,h1,h2⟩,λ_=>by omega⟩
 ·rw[h2];exact⟨λh=>by omega,λ⟨i,h3,h4⟩=>by rw[h1 i h3]at h4;cases h4⟩
theorem qu{p:Nat->Bool}{n:Nat}:jK p n=false↔ ∀i,i<n->p i=false:=by
 constructor
 ·intro h i hi;cases e:p i with
  |false=>rfl
  |true=>rw[qZ.2 ⟨i,hi,e⟩]at h;cases h
 ·intro h;cases e:jK p n with
  |false=>rfl
  |true=>
   obtain⟨i,h1,h2⟩:=qZ.1 e;rw[h i h1]at h2;cases h2
def cIX:C:=
 (vS [vM 4 0] ((vS [MV 6 0,O1 7 .len 6,vM 8 0] (C.block 0 (vS [BI 9 .lss 8 7] ((vU 9 0).seq ((C.block 1 (vS [MV 10 8,MV 5 10] (vS [MV 11 1,MV 12 0,MV 13 5,O2 14 (.idxA 1) 12
 13,LD 15 14,BI 16 .eql 11 15] (vT 16 (vV [MV 17 5,MV 4 17]))))).seq (vW [vN 18 .add 8 1,MV 8 18])))).loop)).seq (vV [MC 4 (i6 (-1))])))
def cIF(z:Nat)(m:Option Nat):C:=
 ((C.ops [MC 4 (i6 0)]).seq (((C.ops [MV 6 0,O1 7 .len 6,MC 8 (i6 0)]).seq (C.block 0 ((C.ops [BI 9 .lss 8 7]).seq ((C.cond (.t 9) C.skip (C.exit 0)).seq ((C.block 1 ((C.ops [MV 10 8,MV 5 10]).seq ((C.ops [MV 11 1,MV 12 0,MV 13 5,O2 14 (.idxA z) 12 13,O1 15 (.load m) 14,O2 16 .callv 11 15]).seq (C.cond (.t 16) ((C.ops [MV 17 5,MV 4 17]).seq C.ret) C.skip)))).seq (C.ops [BC 18 .add 8 (i6 1),MV 8 18])))).loop)).seq ((C.ops [MC 4 (i6 (-1))]).seq C.ret)))
def cCT(g:Nat):C:=((C.ops [MC 4 (.bool false)]).seq ((C.ops [MV 5 0,MV 6 1,O2 7 (.call g true) 5 6,BC 8 .geq 7 (i6 0),MV 4 8]).seq C.ret))
def cEQ:C:=
 (vS [MC 4 (.bool false)] ((vS [MV 6 0,O1 7 .len 6,MV 8 1,O1 9 .len 8,BI 10 .neq 7 9] (vT 10 (vV [MC 4 (.bool false)]))).seq ((vS [MV 11 0,O1 12 .len 11,vM 13 0] (C.block 0 (vS
 [BI 14 .lss 13 12] ((vU 14 0).seq ((C.block 1 (vS [MV 15 13,MV 5 15] (vS [MV 16 0,MV 17 5,O2 18 (.idxA 1) 16 17,LD 19 18,MV 20 1,MV 21 5,O2 22 (.idxA 1) 20 21,LD 23 22,BI 24
 .neq 19 23] (vT 24 (vV [MC 4 (.bool false)]))))).seq (vW [vN 25 .add 13 1,MV 13 25])))).loop)).seq (vV [MC 4 (.bool true)]))))
inductive At where
 |s (x:List UInt8)
 |i (n:Int)
 deriving DecidableEq
def At.v:At->AV
 | .s x=> .str x
 | .i n=> .int .i64 n
def At.k:At->Bool
 | .s _=>true
 | .i _=>false
theorem At.strip(a:At):a.v.strip=a.v:=by cases a<;>rfl
theorem At.flag(a:At):a.v.flag=true:=by cases a<;>rfl
theorem At.solid(a:At):a.v.solid=true:=by cases a<;>rfl
theorem At.eql{a b:At}(h:a.k=b.k):gG .eql a.v b.v=True∧fb .eql a.v b.v= .bool (decide (a=b)):=by
 cases a<;>cases b<;>simp_all [At.v,At.k,gG,fb]
theorem At.neq{a b:At}(h:a.k=b.k):gG .neq a.v b.v=True∧fb .neq a.v b.v= .bool (!decide (a=b)):=by
 cases a<;>cases b<;>simp_all [At.v,At.k,gG,fb]
set_option maxHeartbeats 1000000
theorem qCC{P:Program}{f:Nat}(hf:qK P f 19 0 [RV.tmp 4] cIX)(n:Nat)(g:Nat->At)(x:At)(h:we)(hk: ∀i,i<n->x.k=(g i).k)(hn:n<=9223372036854775807):
  ACalls P f [.sl n (λi=> [(g i).v]),x.v] h (.int .i64 (qbF (λi=>decide (x=g i)) n 0)) h:=by
 have s1:=x.strip;have s2:=x.flag;refine acO hf ?_;simp (disch:=omega) only[cIX,go_sem];refine qt (T:=λi:Nat=>zg 19 [(0,.sl n (λi=> [(g i).v])),(1,x.v),(6,.sl n (λi=> [(g i).v])),(7,.int .i64 n),(8,.int .i64 i)]) (H:=λ_=>h) (inv:=λi=>i<=n∧ ∀j,j<i->decide (x=g j)=false) (m:=λi=>n-i) 0 ⟨nzl _,λj hj=>by omega⟩ (Wk.temps ?_) ?_
 ·exact tmq
 rintro i ⟨i1,i2⟩ K hK
 by_cases hi:i<n
 ·have k1:((i:Int)<n)=True:=wh;obtain⟨e1,e2⟩:=At.eql (hk i hi);have f1:=(g i).strip;have f2:=(g i).flag
  by_cases g0:x=g i
  ·rw[dqt g0]at e2;have hV:=qbG hi i2 (by rw[dqt g0]);rw[hV];simp (disch:=omega) only[s1,s2,k1,e1,e2,f1,f2,go_sem]
   repeat' first|exact v8|with_reducible apply aiA|exact clz|fail
  ·rw[dqf g0]at e2;simp (disch:=omega) only[s1,s2,k1,e1,e2,f1,f2,go_sem]
   repeat' first|with_reducible apply aiA|exact clz|fail
   refine hK _ _ (i+1) ⟨hi,λj hj=> ?_⟩ om (Wk.temps ?_)
   ·by_cases e:j=i
    ·subst e;exact dqf g0
    ·exact i2 j om
   ·exact tmq
 ·have k1:((i:Int)<n)=False:=wi;have hV:=qb4 (p:=λi=>decide (x=g i)) (n:=n) (λj hj=>i2 j om);rw[hV];simp (disch:=omega) only[s1,s2,k1,go_sem]
  repeat' first|exact v8|fail
theorem qex{P:Program}{f z:Nat}{m:Option Nat}(hf:qK P f 19 0 [RV.tmp 4] (cIF z m))(n:Nat)(g:Nat->wg)(e:Nat->AV)(q:Nat)(first cap:wg)(p:Nat->Bool)(h:we)
  (hg: ∀i,i<n->(g i).length=z∧jZ (g i) 0 m∧cut (g i) 0 m=e i∧(e i).strip=e i∧(e i).flag=true) (hc: ∀i,i<n->ACalls P q (first++ [e i]++cap) h (.bool (p i)) h) (hn:n<=9223372036854775807):
  ACalls P f [.sl n g,.fn (.func q) first cap] h (.int .i64 (qbF p n 0)) h:=by
 refine acO hf ?_;simp (disch:=omega) only[cIF,go_sem];refine qt (T:=λi:Nat=>zg 19 [(0,.sl n g),(1,.fn (.func q) first cap),(6,.sl n g),(7,.int .i64 n),(8,.int .i64 i)]) (H:=λ_=>h) (inv:=λi=>i<=n∧ ∀j,j<i->p j=false) (m:=λi=>n-i) 0 ⟨nzl _,λj hj=>by omega⟩ (Wk.temps ?_) ?_
 ·exact tmq
 rintro i ⟨i1,i2⟩ K hK
 by_cases hi:i<n
 ·have k1:((i:Int)<n)=True:=wh;obtain⟨e1,e2,e3,e4,e5⟩:=hg i hi;have e1:=eqt e1;have e2:=eqt e2;have c:=hc i hi;cases g0:p i with
  |true=>
   rw[g0]at c;have hV:=qbG hi i2 g0;rw[hV];simp (disch:=omega) only[k1,e1,e2,e3,e4,e5,go_sem]
   repeat' first|(refine qF c ?_;simp (disch:=omega) only[go_sem])|exact v8|with_reducible apply aiA|exact clz|fail
  |false=>
   rw[g0]at c;simp (disch:=omega) only[k1,e1,e2,e3,e4,e5,go_sem]
   repeat' first|(refine qF c ?_;simp (disch:=omega) only[go_sem])|with_reducible apply aiA|exact clz|fail
   refine hK _ _ (i+1) ⟨hi,λj hj=> ?_⟩ om (Wk.temps ?_)
   ·by_cases e:j=i
    ·subst e;exact g0
    ·exact i2 j om
   ·exact tmq
 ·have k1:((i:Int)<n)=False:=wi;have hV:=qb4 (p:=p) (n:=n) (λj hj=>i2 j om);rw[hV];simp (disch:=omega) only[k1,go_sem]
  repeat' first|exact v8|fail
theorem qvY{P:Program}{f g:Nat}(hf:qK P f 9 0 [RV.tmp 4] (cCT g)){p:Nat->Bool}{n:Nat}{a b:AV}{h:we}(ha:a.strip=a∧a.flag=true)(hb:b.strip=b∧b.flag=true)(hc:ACalls P g [a,b] h (.int .i64 (qbF p n 0)) h):
  ACalls P f [a,b] h (.bool (jK p n)) h:=by
 obtain⟨a1,a2⟩:=ha;obtain⟨b1,b2⟩:=hb;unfold jK;have e0:strips [a,b]= [a,b]:=by simp[strips,a1,b1]
 rw[<-e0]at hc;refine acO hf ?_;simp (disch:=omega) only[cCT,a1,a2,b1,b2,go_sem]
 repeat' first|(refine cA hc ?_ ?_;exact flk;simp (disch:=omega) only[go_sem])|exact v8|fail
theorem qDM{P:Program}{f:Nat}(hf:qK P f 26 0 [RV.tmp 4] cEQ)(n m:Nat)(g k:Nat->At)(h:we)(hk: ∀i,i<n->i<m->(g i).k=(k i).k)(hn:n<=9223372036854775807)(hm:m<=9223372036854775807):
  ACalls P f [.sl n (λi=> [(g i).v]),.sl m (λi=> [(k i).v])] h (.bool (decide (n=m∧ ∀i,i<n->g i=k i))) h:=by
 by_cases hnm:n=m
 ·subst hnm;refine acO hf ?_;simp (disch:=omega) only[cEQ,go_sem];refine qt (T:=λi:Nat=>zg 26 [(0,.sl n (λi=> [(g i).v])),(1,.sl n (λi=> [(k i).v])),(12,.int .i64 n),(13,.int .i64 i)]) (H:=λ_=>h) (inv:=λi=>i<=n∧ ∀j,j<i->g j=k j) (m:=λi=>n-i) 0 ⟨nzl _,λj hj=>by omega⟩ (Wk.temps ?_) ?_
  ·exact tmq
  rintro i ⟨i1,i2⟩ K hK
  by_cases hi:i<n
  ·have k1:((i:Int)<n)=True:=wh;obtain⟨e1,e2⟩:=At.neq (hk i hi hi);have f1:=(g i).strip;have f2:=(g i).flag;have f3:=(k i).strip;have f4:=(k i).flag
   by_cases g0:g i=k i
   ·rw[dqt g0]at e2;simp (disch:=omega) only[k1,e1,e2,f1,f2,f3,f4,go_sem]
    repeat' first|with_reducible apply aiA|exact clz|fail
    refine hK _ _ (i+1) ⟨hi,λj hj=> ?_⟩ om (Wk.temps ?_)
    ·by_cases e:j=i
     ·subst e;exact g0
     ·exact i2 j om
    ·exact tmq
   ·rw[dqf g0]at e2;rw[dqf (λhc=>g0 (hc i hi))];simp (disch:=omega) only[k1,e1,e2,f1,f2,f3,f4,go_sem]
    repeat' first|exact v8|with_reducible apply aiA|exact clz|fail
  ·have k1:((i:Int)<n)=False:=wi;rw[dqt (λj hj=>i2 j om)];simp (disch:=omega) only[k1,go_sem]
   repeat' first|exact v8|fail
 ·have k1:((n:Int)=m)=False:=wi;rw[dqf (λhc=>hnm hc.1)];refine acO hf ?_;simp (disch:=omega) only[cEQ,k1,go_sem]
  repeat' first|exact v8|fail
end AF
end
section
open Go Go.Proofs AF
def zO:List Nat:= []
def qhu:C:=
 (vS [MC 2 (.bool false)] (vV [MV 3 0,O1 4 .slen 3,vN 5 .leq 4 16,MV 6 5,MG 7 6 true 0,P1 8 6 true (.call 89 true) 7,PF 9 6 8,MV 10 9,MG 11 10 true 0,P1 12 10 true (.call 210
 true) 11,MG 13 10 true 0,P1 14 10 true .slen 13,P2 15 10 true (.bin .eql) 12 14,PF 16 10 15,MV 2 16]))
theorem qeu:qK Tryz.prog 136 17 0 [RV.tmp 2] qhu:=fi Tryz.f136 [] zO []
def qj6:C:=
 (vS [MC 2 (.bool false)] (vV [MV 3 0,BC 4 .neq 3 (.str []),MV 5 4,MG 6 5 true 0,P1 7 5 true .slen 6,PC 8 5 true (.bin .leq) 7 (i6 16),PF 9 5 8,MV 10 9,MG 11 10 true 0,P1 12 10
 true (.call 253 true) 11,MG 13 10 true 0,P1 14 10 true .slen 13,P2 15 10 true (.bin .eql) 12 14,PF 16 10 15,MV 2 16]))
theorem qgu:qK Tryz.prog 181 17 0 [RV.tmp 2] qj6:=fi Tryz.f181 [] zO []
def qvX:C:=
 (vS [MC 2 (.bool false)] ((vS [MV 5 0,O1 6 .slen 5,vN 7 .lss 6 1,MV 8 7,vQ 9 8 0,vO 10 8 .slen 9,vR 11 8 (.bin .gtr) 10 (i6 64),PT 12 8 11,MV 13 12,vQ 14 13 0,vO 15 13 (.call
 162 true) 14,vR 16 13 (.bin .neq) 15 (i6 0),PT 17 13 16] (vT 17 (vV [MC 2 (.bool false)]))).seq ((vS [MV 18 0,OC 19 .sidx 18 (i6 0),O1 20 (.call 163 true) 19,MV 3 20] (vS [MV
 21 3,vN 22 .neq 21 1,MV 23 22,MG 24 23 true 3,PC 25 23 true (.bin .neq) 24 (i6 3),PF 26 23 25] (vT 26 (vV [MC 2 (.bool false)])))).seq ((vS [vM 4 0] (C.block 0 ((vS [MV 27 4,MV
 28 0,O1 29 .slen 28,BI 30 .lss 27 29] (vU 30 0)).seq ((C.block 1 (vS [MV 33 0,MV 34 4,O2 35 .sidx 33 34,O1 36 (.call 163 true) 35,vN 37 .gtr 36 4] (vT 37 (vV [MC 2 (.bool
 false)])))).seq (vX 31 4))).loop)).seq (vV [MC 2 (.bool true)])))))
theorem qlc:qK Tryz.prog 89 38 0 [RV.tmp 2] qvX:=fi Tryz.f89 [] zO []
def qwM:C:=
 (vS [vM 2 0] (vS [vM 3 0] ((vS [vM 4 0] (C.block 0 ((vS [MV 6 4,MV 7 0,O1 8 .slen 7,BI 9 .lss 6 8] (vU 9 0)).seq ((C.block 1 (vS [MV 12 0,MV 13 4,O2 14 .sidx 12 13,O1 15 (.call
 163 true) 14,MV 5 15] (vS [MV 16 5,vN 17 .eql 16 1,MV 18 17,vQ 19 18 5,vR 20 18 (.bin .eql) 19 (i6 3),PT 21 18 20] (vT 21 (vX 22 3))))).seq (vX 10 4))).loop)).seq (vV [MV 24
 3,MV 2 24]))))
theorem qym:qK Tryz.prog 210 25 0 [RV.tmp 2] qwM:=fi Tryz.f210 [] zO []
def qwX:C:=
 (vS [vM 2 0] (vS [vM 3 0] ((vS [MV 6 0,O1 7 .slen 6,vM 8 0] (C.block 0 (vS [BI 9 .lss 8 7] ((vU 9 0).seq ((C.block 1 (vS [MV 10 8,MV 4 10] (vS [MV 11 0,MV 12 4,O2 13 .sidx 11
 12,O1 14 (.call 220 true) 13,MV 5 14] (vS [MV 15 5,vN 16 .eql 15 1,MV 17 16,vQ 18 17 5,vR 19 17 (.bin .eql) 18 (i6 3),PT 20 17 19] (vT 20 (vX 21 3)))))).seq (vW [vN 23 .add 8
 1,MV 8 23])))).loop)).seq (vV [MV 24 3,MV 2 24]))))
theorem qyy:qK Tryz.prog 253 25 0 [RV.tmp 2] qwX:=fi Tryz.f253 [] zO []
def qsO:C:=
 (vS [vM 2 0] ((vS [MV 6 0,O1 7 .slen 6,vN 8 .gtr 7 65536] (vT 8 (vV [vM 2 4]))).seq (vS [MV 9 0,O1 10 (.call 238 true) 9,MV 3 10] ((vS [vM 4 0] (C.block 0 ((vS [MV 11 4,MV 12
 0,O1 13 .slen 12,BI 14 .lss 11 13] (vU 14 0)).seq ((C.block 1 (vS [MV 17 0,MV 18 4,O2 19 .sidx 17 18,O1 20 (.call 163 true) 19,MV 5 20] (vS [MV 21 5,vN 22 .eql 21 0,MV 23 22,vQ
 24 23 5,vR 25 23 (.bin .eql) 24 (i6 2),vQ 26 23 25,MG 27 26 true 3,MG 28 26 true 4,P2 29 26 true (.idxA 1) 27 28,P1 30 26 true (.load none) 29,P1 31 26 true (.un UnOp.not)
 30,QF 32 23 false 26 31,PT 33 23 32] (vT 33 (vV [vM 2 11]))))).seq (vX 15 4))).loop)).seq (vV [vM 2 0])))))
theorem qrG:qK Tryz.prog 162 34 0 [RV.tmp 2] qsO:=fi Tryz.f162 [] zO []
def qwG:C:=
 (vS [vM 2 0] ((C.block 0 (vS [MV 4 0,BC 5 .geq 4 (.int .u8 97),MV 6 5,MG 7 6 true 0,PC 8 6 true (.bin .leq) 7 (.int .u8 122),PF 9 6 8,MV 10 9,vQ 11 10 0,vR 12 10 (.bin .geq) 11
 (.int .u8 65),vQ 13 10 12,MG 14 13 true 0,PC 15 13 true (.bin .leq) 14 (.int .u8 90),QF 16 10 false 13 15,PT 17 10 16,MV 3 17] (C.cond (.t 3) (vV [vM 2 1]) (vS [MV 19 0,BC 20
 .eql 19 (.int .u8 94),MV 21 20,vQ 22 21 0,vR 23 21 (.bin .eql) 22 (.int .u8 126),PT 24 21 23,MV 25 24,vQ 26 25 0,vR 27 25 (.bin .eql) 26 (.int .u8 37),PT 28 25 27,MV 18 28]
 (C.cond (.t 18) (vV [vM 2 2]) (vS [MV 30 0,BC 31 .geq 30 (.int .u8 48),MV 32 31,MG 33 32 true 0,PC 34 32 true (.bin .leq) 33 (.int .u8 57),PF 35 32 34,MV 29 35] (C.cond (.t 29)
 (vV [vM 2 3]) (vS [MV 37 0,BC 38 .eql 37 (.int .u8 39),MV 36 38] (C.cond (.t 36) (vV [vM 2 4]) (vS [MV 40 0,BC 41 .eql 40 (.int .u8 46),MV 42 41,vQ 43 42 0,vR 44 42 (.bin .eql)
 43 (.int .u8 44),PT 45 42 44,MV 46 45,vQ 47 46 0,vR 48 46 (.bin .eql) 47 (.int .u8 59),PT 49 46 48,MV 50 49,vQ 51 50 0,vR 52 50 (.bin .eql) 51 (.int .u8 58),PT 53 50 52,MV 54
 53,vQ 55 54 0,vR 56 54 (.bin .eql) 55 (.int .u8 33),PT 57 54 56,MV 58 57,vQ 59 58 0,vR 60 58 (.bin .eql) 59 (.int .u8 63),PT 61 58 60,MV 62 61,vQ 63 62 0,vR 64 62 (.bin .eql)
 63 (.int .u8 40),PT 65 62 64,MV 66 65,vQ 67 66 0,vR 68 66 (.bin .eql) 67 (.int .u8 41),PT 69 66 68,MV 70 69,vQ 71 70 0,vR 72 70 (.bin .eql) 71 (.int .u8 45),PT 73 70 72,MV 39
 73] (C.cond (.t 39) (vV [vM 2 5]) (vS [MV 75 0,BC 76 .eql 75 (.int .u8 32),MV 74 76] (vT 74 (vV [vM 2 6])))))))))))))).seq (vV [vM 2 0])))
theorem qyf:qK Tryz.prog 163 77 0 [RV.tmp 2] qwG:=fi Tryz.f163 [] zO []
def qwP:C:=
 (vS [vM 2 0] ((C.block 0 (vS [MV 4 0,BC 5 .geq 4 (.int .u8 97),MV 6 5,MG 7 6 true 0,PC 8 6 true (.bin .leq) 7 (.int .u8 122),PF 9 6 8,MV 10 9,vQ 11 10 0,vR 12 10 (.bin .geq) 11
 (.int .u8 65),vQ 13 10 12,MG 14 13 true 0,PC 15 13 true (.bin .leq) 14 (.int .u8 90),QF 16 10 false 13 15,PT 17 10 16,MV 3 17] (C.cond (.t 3) (vV [vM 2 1]) (vS [MV 19 0,BC 20
 .eql 19 (.int .u8 94),MV 21 20,vQ 22 21 0,vR 23 21 (.bin .eql) 22 (.int .u8 126),PT 24 21 23,MV 25 24,vQ 26 25 0,vR 27 25 (.bin .eql) 26 (.int .u8 37),PT 28 25 27,MV 18 28]
 (C.cond (.t 18) (vV [vM 2 2]) (vS [MV 30 0,BC 31 .geq 30 (.int .u8 48),MV 32 31,MG 33 32 true 0,PC 34 32 true (.bin .leq) 33 (.int .u8 57),PF 35 32 34,MV 29 35] (C.cond (.t 29)
 (vV [vM 2 3]) (vS [MV 37 0,BC 38 .eql 37 (.int .u8 39),MV 36 38] (C.cond (.t 36) (vV [vM 2 4]) (vS [MV 40 0,BC 41 .eql 40 (.int .u8 32),MV 39 41] (C.cond (.t 39) (vV [vM 2 6])
 (vS [MV 43 0,BC 44 .neq 43 (.int .u8 0),MV 45 44,MG 46 45 true 0,PN 47 45 true (.call 281 true) [.c (.str [46,44,59,58,33,63,40,41,45]),.t 46],PC 48 45 true (.bin .geq) 47 (i6
 0),PF 49 45 48,MV 42 49] (vT 42 (vV [vM 2 5])))))))))))))).seq (vV [vM 2 0])))
theorem qyp:qK Tryz.prog 220 50 0 [RV.tmp 2] qwP:=fi Tryz.f220 [] zO []
def qwV:C:=
 (vS [ON 2 (.nilo 0 1 4) []] (vS [⟨some 5,none,.bslc 1 1 0 4 [.bool false] [],[]⟩,MV 3 5] ((vS [vM 4 0] (C.block 0 ((vS [MV 6 4,MV 7 0,O1 8 .slen 7,BI 9 .lss 6 8] (vU 9 0)).seq
 ((C.block 1 (vW [MV 12 3,MV 13 0,MV 14 4,O2 15 .sidx 13 14,O1 16 (.call 163 true) 15,vN 17 .eql 16 2,MV 18 17,MG 19 18 true 4,PC 20 18 true (.bin .gtr) 19 (i6 0),PF 21 18 20,MV
 22 21,MG 23 22 true 0,MG 24 22 true 4,PC 25 22 true (.bin .sub) 24 (i6 1),P2 26 22 true .sidx 23 25,P1 27 22 true (.call 163 true) 26,PC 28 22 true (.bin .eql) 27 (i6 1),MG 29
 22 true 28,vQ 30 29 3,vQ 31 29 4,vR 32 29 (.bin .sub) 31 (i6 1),vP 33 29 (.idxA 1) 30 32,v6 34 29 33,QT 35 22 true 29 34,PF 36 22 35,⟨some 37,none,.bslc 2 1 1 4 [.bool false]
 [(0,1)],[.t 36]⟩,O2 38 (.app 3 1 4 1) 12 37,MV 3 38])).seq (vX 10 4))).loop)).seq (vV [MV 39 3,MV 2 39]))))
theorem qyv:qK Tryz.prog 238 40 4 [RV.tmp 2] qwV:=fi Tryz.f238 [2,5,37,38] zO []
def qw4:C:=
 (vS [vM 4 0] (vV [MV 5 0,MV 6 1,O2 7 (.call 319 true) 5 6,MV 4 7]))
theorem qyH:qK Tryz.prog 281 8 0 [RV.tmp 4] qw4:=fi Tryz.f281 [] zO []
def qj5:C:=
 (vS [MC 2 (.bool false)] ((vS [MV 4 0,BC 5 .eql 4 (.str []),MV 6 5,vQ 7 6 0,vO 8 6 .slen 7,vR 9 6 (.bin .gtr) 8 (i6 64),PT 10 6 9,MV 11 10,vQ 12 11 0,vO 13 11 (.call 219 true)
 12,vR 14 11 (.bin .neq) 13 (i6 0),PT 15 11 14] (vT 15 (vV [MC 2 (.bool false)]))).seq ((vS [MV 16 0,OC 17 .sidx 16 (i6 0),O1 18 (.call 220 true) 17,MV 3 18] (vS [MV 19 3,vN 20
 .neq 19 1,MV 21 20,MG 22 21 true 3,PC 23 21 true (.bin .neq) 22 (i6 3),PF 24 21 23] (vT 24 (vV [MC 2 (.bool false)])))).seq (vV [MV 25 0,O1 26 .s2b 25,OC 27 (.call 221 true) 26
 (.fn (Fn.func 222) [] []),O1 28 (.un UnOp.not) 27,MV 2 28]))))
theorem qgt:qK Tryz.prog 145 29 0 [RV.tmp 2] qj5:=fi Tryz.f145 [] zO []
def qsS:C:=
 (vS [⟨some 2,none,.alloc 0 28 [i6 0],[]⟩] ((vS [MV 6 0,O1 7 .slen 6,vN 8 .gtr 7 65536] (vT 8 (vV [⟨none,none,.store 1,[.t 2,.c (i6 4)]⟩]))).seq ((vS [MV 9 0,O1 10 (.call 280
 true) 9] (C.block 0 (C.range (.t 10) [11,12] (vW [MV 4 12]) (C.block 1 (vS [MV 13 4,OC 14 .sidx 13 (i6 0),O1 15 (.call 220 true) 14,MV 5 15] (vS [MV 16 5,vN 17 .eql 16 0,MV 18
 17,vQ 19 18 5,vR 20 18 (.bin .eql) 19 (i6 2),PT 21 18 20] (vT 21 (vV [⟨none,none,.store 1,[.t 2,.c (i6 11)]⟩])))))))).seq (vV [⟨none,none,.store 1,[.t 2,.c (i6 0)]⟩]))))
theorem qrL:qK Tryz.prog 219 22 1 [RV.cell 2 none] qsS:=fi Tryz.f219 [2] zO []
def qwQ:C:=
 (vS [MC 4 (.bool false)] (vV [MV 5 0,MV 6 1,O2 7 (.call 282 true) 5 6,vN 8 .geq 7 0,MV 4 8]))
theorem qyq:qK Tryz.prog 221 9 0 [RV.tmp 4] qwQ:=fi Tryz.f221 [] zO []
def qwR:C:=
 (vS [MC 2 (.bool false)] (vS [MV 4 0,O1 5 (.call 220 true) 4,MV 3 5] (vV [MV 6 3,vN 7 .eql 6 5,MV 8 7,vQ 9 8 3,vR 10 8 (.bin .eql) 9 (i6 6),PT 11 8 10,MV 2 11])))
theorem qyr:qK Tryz.prog 222 12 0 [RV.tmp 2] qwR:=fi Tryz.f222 [] zO []
def qw3:C:=
 (vS [O1 1 (.box 0 9) 0,MC 2 .nilfn] (vV [O1 3 (.mkfn (Fn.func 335) 0) 1,MV 2 3]))
theorem qyG:qK Tryz.prog 280 4 1 [RV.tmp 2] qw3:=fi Tryz.f280 [1] zO []
def qw5:C:=
 (vS [vM 4 0] ((vS [MV 6 0,O1 7 .len 6,vM 8 0] (C.block 0 (vS [BI 9 .lss 8 7] ((vU 9 0).seq ((C.block 1 (vS [MV 10 8,MV 5 10] (vS [MV 11 1,MV 12 0,MV 13 5,O2 14 (.idxA 1) 12
 13,LD 15 14,O2 16 .callv 11 15] (vT 16 (vV [MV 17 5,MV 4 17]))))).seq (vW [vN 18 .add 8 1,MV 8 18])))).loop)).seq (vV [MC 4 (i6 (-1))])))
theorem qyI:qK Tryz.prog 282 19 0 [RV.tmp 4] qw5:=fi Tryz.f282 [] zO []
def qs2:C:=
 (vS [MC 4 (.bool false)] (vV [MV 5 0,O1 6 .slen 5,MV 7 1,O1 8 .slen 7,BI 9 .geq 6 8,MV 10 9,MG 11 10 true 0,MG 12 10 true 1,P1 13 10 true .slen 12,P2 14 10 true (.sslc false
 true) 11 13,MG 15 10 true 1,P2 16 10 true (.bin .eql) 14 15,PF 17 10 16,MV 4 17]))
theorem qrW:qK Tryz.prog 358 18 0 [RV.tmp 4] qs2:=fi Tryz.f358 [] zO []
def qj9:C:=
 (vS [MC 4 (.bool false)] (vV [MV 5 0,O1 6 .slen 5,MV 7 1,O1 8 .slen 7,BI 9 .geq 6 8,MV 10 9,MG 11 10 true 0,MG 12 10 true 0,P1 13 10 true .slen 12,MG 14 10 true 1,P1 15 10 true
 .slen 14,P2 16 10 true (.bin .sub) 13 15,P2 17 10 true (.sslc true false) 11 16,MG 18 10 true 1,P2 19 10 true (.bin .eql) 17 18,PF 20 10 19,MV 4 20]))
theorem qgx:qK Tryz.prog 356 21 0 [RV.tmp 4] qj9:=fi Tryz.f356 [] zO []
def qxc:C:=
 (vS [vM 3 0] (vS [vM 4 1] (C.block 0 ((vS [MV 5 4,LD 6 1,O1 7 .slen 6,BI 8 .leq 5 7] (vU 8 0)).seq ((C.block 1 ((vS [MV 11 4,LD 12 1,O1 13 .slen 12,BI 14 .lss 11 13,MV 15 14,P1
 16 15 true (.load none) 1,MG 17 15 true 4,P2 18 15 true .sidx 16 17,P1 19 15 true (.call 220 true) 18,PC 20 15 true (.bin .eql) 19 (i6 2),PF 21 15 20,MV 22 21,P1 23 22 true
 (.load none) 1,MG 24 22 true 3,MG 25 22 true 4,PN 26 22 true (.call 336 true) [.t 23,.t 24,.t 25],PF 27 22 26] (vT 27 (C.exit 1))).seq ((vS [MV 28 0,MV 29 3,LD 30 1,MV 31 3,MV
 32 4,ON 33 (.sslc true true) [.t 30,.t 31,.t 32],ON 34 .callv [.t 28,.t 29,.t 33],O1 35 (.un UnOp.not) 34] (vT 35 C.ret)).seq (vW [MV 36 4,MV 3 36])))).seq (vX 9 4))).loop)))
theorem qyQ:qK Tryz.prog 335 37 0 [] qxc:=fi Tryz.f335 [] zO []
def qxd:C:=
 (vS [MC 6 (.bool false)] (vV [MV 7 0,MV 8 1,O2 9 .sidx 7 8,O1 10 (.call 220 true) 9,vN 11 .eql 10 1,MV 12 11,MG 13 12 true 2,MG 14 12 true 1,P2 15 12 true (.bin .gtr) 13 14,PF
 16 12 15,MV 6 16]))
theorem qyR:qK Tryz.prog 336 17 0 [RV.tmp 6] qxd:=fi Tryz.f336 [] zO []
end
section
namespace HY
def UM(n:Int):Int:=
 if (97<=n∧n<=122)∨(65<=n∧n<=90) then 1
 else if n=94∨n=126∨n=37 then 2
 else if 48<=n∧n<=57 then 3
 else if n=39 then 4
 else if n=32 then 6
 else if n=46∨n=44∨n=59∨n=58∨n=33∨n=63∨n=40∨n=41∨n=45 then 5
 else 0
def kind(b:UInt8):Int:=UM b.toNat
def ch(s:List UInt8)(i:Nat):UInt8:=s.getD i 0
theorem jP(s:List UInt8)(i:Nat):(s[i]?).getD 0=ch s i:=by rw[ch,gdqA]
def kV(frm:Nat)(cur:List UInt8):List UInt8->List (Nat×List UInt8)
 | []=> [(frm,cur)]
 |c::r=>if kind c=2∧kind (ch cur 0)=1 then kV frm (cur++ [c]) r else (frm,cur)::kV (frm+cur.length) [c] r
def zJ:List UInt8->List (Nat×List UInt8)
 | []=> []
 |c::r=>kV 0 [c] r
def qfi(s:List UInt8):List (List UInt8):=(zJ s).map (·.2)
theorem qo0(frm:Nat)(cur r:List UInt8):kV frm cur r≠ []:=by
 induction r generalizing frm cur with
 |nil=>simp[kV]
 |cons c r ih=>simp only[kV];split;exact ih _ _;simp
theorem qkB{frm:Nat}{cur r:List UInt8}(hc:cur≠ []): ∀x∈kV frm cur r,x.2≠ []:=by
 induction r generalizing frm cur with
 |nil=>intro x hx;simp[kV]at hx;subst hx;exact hc
 |cons c r ih=>
  intro x hx;simp only[kV]at hx;split at hx
  ·exact ih (by simp) x hx
  ·rcases List.mem_cons.1 hx with rfl|hx
   ·exact hc
   ·exact ih (by simp) x hx
theorem qtg{s:List UInt8}: ∀x∈qfi s,x≠ []:=by
 cases s with
 |nil=>intro x hx;simp[qfi,zJ]at hx
 |cons c r=>
  intro x hx;simp only[qfi,zJ,List.mem_map]at hx;obtain⟨y,hy,rfl⟩:=hx;exact qkB (by simp) y hy
def ze(s:List UInt8):Nat->Bool
 |0=>false
 |i+1=>decide (kind (ch s (i+1))=2)&&(decide (kind (ch s i)=1)||ze s i)
def qbl(s:List UInt8):List Bool:=(List.range s.length).map (ze s)
theorem qcZ{s:List UInt8}{i:Nat}(h:i<s.length):(qbl s).getD i false=ze s i:=by simp[qbl,gdqA,h]
def qbe(s:List UInt8)(f i:Nat):Prop:=f<i∧(decide (kind (ch s (i-1))=1)||ze s (i-1))=decide (kind (ch s f)=1)
theorem qbf{s:List UInt8}{f i:Nat}(h:qbe s f i):ze s i=(decide (kind (ch s i)=2)&&decide (kind (ch s f)=1)):=by
 obtain⟨h1,h2⟩:=h;cases i with
 |zero=>omega
 |succ i=>simp only[ze];rw[<-h2];rfl
theorem qez(s:List UInt8):qbe s 0 1:=⟨om,by simp[ze]⟩
theorem qlo{s:List UInt8}{f i:Nat}(h:qbe s f i)(hr:ze s i=true):qbe s f (i+1):=by
 have h3:=qbf h;rw[hr]at h3;refine⟨by have:=h.1;omega,?_⟩;rw[Nat.add_sub_cancel,hr,Bool.or_true];symm at h3;simp only[Bool.and_eq_true]at h3;exact h3.2.symm
theorem qhW{s:List UInt8}{f i:Nat}(h:qbe s f i)(hr:ze s i=false):qbe s i (i+1):=
 ⟨om,by rw[Nat.add_sub_cancel,hr,Bool.or_false]⟩
def zP(c:List UInt8):Bool:=decide (kind (ch c 0)=0)||decide (kind (ch c 0)=2)
def zG(s:List UInt8):Int:=if 65536<s.length then 4 else if (qfi s).any zP then 11 else 0
def jr(s:List UInt8):Bool:=
 decide (0<s.length)&&decide (s.length<=64)&&decide (zG s=0)&&(decide (kind (ch s 0)=1)||decide (kind (ch s 0)=3))&& !(s.any λc=>decide (kind c=5)||decide (kind c=6))
end HY
end
section
namespace HY
def qr0(s p:List UInt8):Bool:=decide (s.take p.length=p)
def qr1(s p:List UInt8):Bool:=decide (s.drop (s.length-p.length)=p)
def kz(s:List UInt8)(i:Nat):Bool:=decide (kind (ch s i)=0)||(decide (kind (ch s i)=2)&& !ze s i)
end HY
end
section
open Go Go.Proofs AF HY
namespace HY
def strs(l:List (List UInt8)):AV:= .sl l.length λi=> [.str (l.getD i [])]
theorem qoh {P : Program} {f : FuncId} {fn : Func} (h : P.funcs[f]? = some fn) (h1 : fn.body.isSome = true) (h2 : (fn.name != "runtime.NumGoroutine") = true) : okF P f = true := by
 unfold okF;rw[h];simp[h1,h2]
theorem qFa(s:List UInt8)(c:Int)(h:we):ACalls Tryz.prog 319 [.str s,.int .u8 c] h (.int .i64 (Go.Lib.indexByte s c.toNat.toUInt8)) h:=by
 refine⟨qoh Tryz.func319 (by kernel_rfl) (by kernel_rfl),λw σ xs H hv=> ?_⟩;obtain⟨x,y,rfl,hx,hy⟩:=hv.two;rw[zZ hx,zz hy];refine (callsIn_wide.2 (qgz ⟨s.toArray⟩ c w)).mono ?_;rintro e w' ⟨rfl,rfl⟩;exact⟨_,σ,rfl,H,.imm .int,Ext.refl _ _⟩
theorem qE8(s:List UInt8)(c:Int)(h:we):ACalls Tryz.prog 281 [.str s,.int .u8 c] h (.int .i64 (Go.Lib.indexByte s c.toNat.toUInt8)) h:=by
 refine qx qyH (by simp) ?_;simp only[lco,lnl,Nat.reduceAdd,Nat.reduceSub,List.replicate,lca,lna,lan];simp (disch:=omega) only[qw4,go_sem,qm,dvP,mdP]
 repeat' first|(refine qI (qFa s c _) ?_ ?_;exact flk;simp (disch:=omega) only[go_sem,qm,dvP,mdP])|exact v8|fail
theorem qmv: ∀n:Fin 256,(0<=Go.Lib.indexByte [46,44,59,58,33,63,40,41,45] (UInt8.ofNat n.val))↔(n.val=46∨n.val=44∨n.val=59∨n.val=58∨n.val=33∨n.val=63∨n.val=40∨n.val=41∨n.val=45):=by decide+kernel
theorem qDY(n:Int)(h:we)(n0:0<=n)(n1:n<=255):ACalls Tryz.prog 220 [.int .u8 n] h (.int .i64 (UM n)) h:=by
 obtain⟨m,rfl⟩: ∃m:Nat,n=m:=⟨n.toNat,om⟩
 have hp:=qmv ⟨m,om⟩;simp only at hp;obtain⟨q,hq⟩:=wc (Go.Lib.indexByte [46,44,59,58,33,63,40,41,45] (UInt8.ofNat m))
 rw[<-hq]at hp;have hc: ∀h,ACalls Tryz.prog 281 [.str [46,44,59,58,33,63,40,41,45],.int .u8 (m:Int)] h (.int .i64 q) h:=λh=>by rw[hq];exact qE8 _ _ h
 refine qx qyp (by simp) ?_;simp only[lco,lnl,Nat.reduceAdd,Nat.reduceSub,List.replicate,lca,lna,lan];simp (disch:=omega) only[qwP,go_sem,qm,dvP,mdP]
 repeat' first|(refine qN (λe=>⟨?_,hc _⟩) ?_;exact flk;simp (disch:=omega) only[go_sem,qm,dvP,mdP])|(apply qc;exact rvk;simp only[go_sem];apply qe)|(with_reducible first|intro _|apply aiA)
 all_goals first
  |omega
  |(unfold UM;(repeat' split)<;>omega)
theorem qD0(n:Int)(h:we):ACalls Tryz.prog 163 [.int .u8 n] h (.int .i64 (UM n)) h:=by
 refine qx qyf (by simp) ?_;simp only[lco,lnl,Nat.reduceAdd,Nat.reduceSub,List.replicate,lca,lna,lan];simp (disch:=omega) only[qwG,go_sem,qm,dvP,mdP]
 repeat' first|(apply qc;exact rvk;simp only[go_sem];apply qe)|(with_reducible first|intro _|apply aiA)
 all_goals first
  |omega
  |grind [UM]
end HY
end
section
open Go Go.Proofs AF HY
namespace HY
theorem _root_.AF.LowI.ret{h hh:we}{ts:wg}{L:LInfo}(s:LS)(hl:LowI h hh)(hts: ∀c∈ts,qS (h.length+1) c=true):
  (hh++ [AObj.lp s ts L]).length=(h++ [AObj.lp .ready ts L]).length∧ ∀o∈hh++ [AObj.lp s ts L],o∈h++ [AObj.lp .ready ts L]∨lowO (h++ [AObj.lp .ready ts L]).length o:=by
 refine⟨by simp[hl.1],λo ho=> ?_⟩;rw[lap,List.length_singleton];rcases List.mem_append.1 ho with ho|ho
 ·rcases hl.2 o ho with h1|h1
  ·exact .inl (List.mem_append_left _ h1)
  ·exact .inr h1.2
 ·rw[List.mem_singleton]at ho;subst ho;exact .inr hts
theorem qhf(b:UInt8):0<=((b.toNat:Nat):Int)∧((b.toNat:Nat):Int)<=255:=by
 have:=b.toNat_lt
 omega
theorem qa7(b:UInt8)(h:we):ACalls Tryz.prog 220 [.int .u8 (b.toNat:Int)] h (.int .i64 (kind b)) h:=qDY _ h (qhf b).1 (qhf b).2
theorem qdW(b:UInt8)(h:we):ACalls Tryz.prog 163 [.int .u8 (b.toNat:Int)] h (.int .i64 (kind b)) h:=qD0 _ h
theorem qbY{s:List UInt8}{f i:Nat}(hf:f<i)(hi:i<s.length):kV f ((s.drop f).take (i-f)) (s.drop i)=if kind (ch s i)=2∧kind (ch s f)=1 then kV f ((s.drop f).take (i+1-f)) (s.drop (i+1)) else (f,(s.drop f).take (i-f))::kV i ((s.drop i).take (i+1-i)) (s.drop (i+1)):=by
 have e1:s.drop i=ch s i::s.drop (i+1):=by rw[List.drop_eq_getElem_cons hi];simp[ch,hi]
 have e2:ch ((s.drop f).take (i-f)) 0=ch s f:=by simp[ch,gdqA,List.getElem?_take,show 0<i-f by omega]
 have e3:(s.drop f).take (i+1-f)=(s.drop f).take (i-f)++ [ch s i]:=by
  rw[show i+1-f=(i-f)+1 by omega,List.take_add_one,List.getElem?_drop,show f+(i-f)=i by omega];simp[ch,gdqA,hi]
 have e4:f+((s.drop f).take (i-f)).length=i:=by rw[List.length_take,List.length_drop];omega
 have e5:(s.drop i).take (i+1-i)= [ch s i]:=by rw[e1,show i+1-i=1 by omega];rfl
 rw[e5,e1];simp only[kV,e2,e4,e3]
end HY
end
section
open Go Go.Proofs AF HY
namespace HY
def qbW(l:List Bool):AV:= .sl l.length λi=> [.bool (l.getD i false)]
theorem qsi{cs:wg}{n m k:Nat}{f:Nat->wg}{fz:Nat->Bool}{h:we}(e:cs.length=m)(ek:k=m)(hf: ∀i c,cs[i]? =some c->f i= [c])(hr: ∀c∈cs,rei fz h (n+1) c=c):VLe (.sl m λi=>((List.drop i cs).take 1).map (rei fz h (n+1))) (.sl k f):=by
 subst e ek;refine qv8 rfl (λi hi=> ?_);rw[List.drop_eq_getElem_cons hi,hf i cs[i] (zH hi)];show [rei fz h (n+1) cs[i]]=_;rw[hr cs[i] (List.getElem_mem hi)]
def jH(l:List (List UInt8)):wg:=l.map .str
theorem cV(l:List (List UInt8)):(jH l).length=l.length:=by simp[jH]
theorem qnu{l:List (List UInt8)}{n m:Nat}{fz:Nat->Bool}{h:we}(e:l.length=m):VLe (.sl m λi=>((List.drop i (jH l)).take 1).map (rei fz h (n+1))) (strs l):=by
 subst e;refine qsi (cV l) rfl (λi c hc=> ?_) (λc hc=> ?_)
 ·unfold jH at hc;rw[List.getElem?_map,Option.map_eq_some_iff]at hc;obtain⟨x,hx,rfl⟩:=hc;simp[gdqA,hx]
 ·unfold jH at hc;rw[List.mem_map]at hc;obtain⟨x,_,rfl⟩:=hc;rfl
def kP(s:List UInt8)(i:Nat):wg:=(List.range i).map λj=>AV.bool (ze s j)
theorem qcf(s:List UInt8)(i:Nat):kP s (i+1)=kP s i++ [.bool (ze s i)]:=by simp[kP,List.range_succ]
theorem qa1(s:List UInt8)(i:Nat):(kP s i).length=i:=by simp[kP]
theorem t95(s:List UInt8)(h:we)(hs:s.length<=1000000000):ACalls Tryz.prog 238 [.str s] h (qbW (qbl s)) h:=by
 refine qx qyv (by simp) ?_;simp only[lco,lnl,Nat.reduceAdd,Nat.reduceSub,List.replicate,lca,lna,lan];simp (disch:=omega) only[qwV,zf,go_sem,qm,dvP,mdP]
 all_goals first
  |omega
  |(simp;done)
  |skip
 refine qt (T:=λi:Nat×Nat×AObj=>zg 40 [(0,.str s),(3,.osl (h.length+1) i.2.1 1 0 i.1),(4,.int .i64 i.1)]) (H:=λi=>h++ [.emp 1,.mem i.2.1 4 (kP s i.1),i.2.2,.emp 0])
  (inv:=λi=>i.1<=s.length∧qH [i.2.2] 0=true) (m:=λi=>s.length-i.1) (0,1,.emp 0) ⟨by simp only;omega,rfl⟩ (Wk.temps ?_) ?_
 ·(simp only[zg,List.foldl,go_sem,qh,qf,qb,qg];try exact wa)
 ·rintro⟨i,v,O⟩ ⟨i1,i2⟩ K hK;simp only at i1 i2 hK;have i2': ∀m,qH (O::m) 0=true:=λ_=>i2
  have eL:=qa1 s i;have eT:List.take i (kP s i)=kP s i:=ltl om
  by_cases hi:i<s.length
  ·cases i with
   |zero=>
    have hz:(((0:Nat):Int)<(s.length:Int))=True:=wh;have hz0:((0:Nat):Int)=0:=rfl;have hlt:((0:Int)<0)=False:=wi;have hc0:kP s 0= []:=rfl;have hz1:((0:Int)<(s.length:Int))=True:=wh;have hR:ze s 0=false:=rfl
    by_cases hk0:kind (ch s 0)=2
    all_goals
     simp (disch:=omega) only[zg,List.foldl,jP,i2',zf,hz0,hlt,hc0,hz1,hk0,go_sem,qm,dvP,mdP]
     repeat' first|(refine ql ((.int .i64 0)) ?_;simp (disch:=omega) only[jP,i2',zf,hz0,hlt,hc0,hk0,go_sem,qm,dvP,mdP])|(refine qI (qdW _ _) ?_ ?_;exact flk;simp (disch:=omega) only[jP,i2',zf,hz0,hlt,hc0,hk0,go_sem,qm,dvP,mdP])|(with_reducible first|intro _|apply aiA)|exact clz|fail
     refine hK _ _ (0+1,v+1,.mem (qo (some O)+1) 4 [.bool (ze s 0)]) ⟨by simp only;omega,rfl⟩ (by simp only;omega) ?_;rw[qcf];simp only[hR,hc0,lna];refine Wk.temps ?_
     (simp only[zg,List.foldl,go_sem,qh,qf,qb,qg];try exact wa)
   |succ i=>
    have hx:(((i+1:Nat):Int)-1).toNat=i:=by omega
    have hg:(kP s (i+1))[i]? =some (.bool (ze s i)):=by simp[kP]
    have hp:(0<((i+1:Nat):Int))=True:=wh;simp (disch:=omega) only[zg,List.foldl,jP,i2',eL,eT,zf,hx,hg,hp,go_sem,qm,dvP,mdP]
    repeat' first|(refine qI (qdW _ _) ?_ ?_;exact flk;simp (disch:=omega) only[jP,i2',eL,eT,zf,hx,hg,hp,go_sem,qm,dvP,mdP])|(refine qN (λe=>⟨?_,qdW _ _⟩) ?_;exact flk;simp (disch:=omega) only[jP,i2',eL,eT,zf,hx,hg,hp,go_sem,qm,dvP,mdP])|(apply qa;exact rvk;simp only[go_sem])|(with_reducible first|intro _|apply aiA)
    all_goals first
     |omega
     |(simp;done)
     |skip
    refine hK _ _ (i+1+1,v+1,.mem (qo (some O)+1) 4 [.bool (ze s (i+1))]) ⟨by simp only;omega,rfl⟩ (by simp only;omega) ?_;rw[qcf s (i+1)];simp only[ze];refine Wk.temps ?_
    (simp only[zg,List.foldl,go_sem,qh,qf,qb,qg];try exact wa)
  ·have e:i=s.length:=by omega
   subst e;simp (disch:=omega) only[zg,List.foldl,eL,go_sem,qm,dvP,mdP]
   repeat' first|(apply qa;exact rvk;simp only[go_sem])|(with_reducible first|intro _|apply aiA)
   all_goals first
    |omega
    |skip
   have hrl:(qbl s).length=s.length:=by simp[qbl]
   unfold qbW;rw[ipo om];refine qsi (qa1 s _) hrl (λi c hc=> ?_) (λc hc=> ?_)
   ·have hi:=(lgs.1 hc).1;rw[qa1]at hi;rw[qcZ hi];simp[kP,hi]at hc;rw[hc]
   ·simp[kP]at hc;obtain⟨x,_,rfl⟩:=hc;rfl
end HY
end
section
open Go Go.Proofs AF HY
namespace HY
theorem qcq(s:List UInt8){f i:Nat}(h:f<=i)(hi:i<s.length):(s.drop f).take (i+1-f)=(s.drop f).take (i-f)++ [ch s i]:=by
 rw[show i+1-f=(i-f)+1 by omega,List.take_add_one,List.getElem?_drop,show f+(i-f)=i by omega];simp[ch,gdqA,hi]
theorem qsa(s:List UInt8){i:Nat}(hi:i<s.length):(s.drop i).take (i+1-i)= [ch s i]:=by
 rw[qcq s (nlr _) hi,Nat.sub_self];rfl
def done(s:List UInt8)(D:List (List UInt8))(f i:Nat):Prop:=qbe s f i∧i<=s.length∧qfi s=D++(kV f ((s.drop f).take (i-f)) (s.drop i)).map (·.2)
theorem qhG{s:List UInt8}(h:0<s.length):done s [] 0 1:=by
 refine⟨qez s,h,?_⟩;cases s with
 |nil=>simp at h
 |cons c r=>simp[qfi,zJ]
end HY
end
section
open Go Go.Proofs AF HY
namespace HY
theorem qkA{s:List UInt8}: ∀(k:Nat) {f i:Nat},s.length-i=k->qbe s f i->i<=s.length->zP ((s.drop f).take (i-f))=zP [ch s f]->
  ((kV f ((s.drop f).take (i-f)) (s.drop i)).map (·.2)).any zP=(zP [ch s f]||(List.range' i (s.length-i)).any (kz s)):=by
 intro k
 induction k with
 |zero=>
  intro f i hk hc hi hb;have e:i=s.length:=by omega
  subst e;rw[List.drop_length,Nat.sub_self];simp[kV,hb]
 |succ k ih=>
  intro f i hk hc hi hb;have hi':i<s.length:=by omega
  rw[qbY hc.1 hi'];rw[show s.length-i=(s.length-(i+1))+1 by omega,List.range'_succ,List.any_cons];have hr:=qbf hc
  by_cases hg:kind (ch s i)=2∧kind (ch s f)=1
  ·rw[ipo hg];have hrt:ze s i=true:=by rw[hr];simp[hg]
   have hb2:zP ((s.drop f).take (i+1-f))=zP [ch s f]:=by
    rw[<-hb];unfold zP;have e:ch ((s.drop f).take (i+1-f)) 0=ch ((s.drop f).take (i-f)) 0:=by
     have:=hc.1
     simp[ch,gdqA,List.getElem?_take,show 0<i-f by omega,show 0<i+1-f by omega]
    rw[e]
   rw[ih om (qlo hc hrt) hi' hb2]
   have:kz s i=false:=by unfold kz;rw[hrt,hg.1];rfl
   rw[this,Bool.false_or]
  ·rw[ine hg];have hrf:ze s i=false:=by
    rw[hr];cases h2:decide (kind (ch s i)=2)<;>cases h3:decide (kind (ch s f)=1)<;>simp_all
   simp only[List.map_cons,List.any_cons,hb];have h1:(s.drop i).take (i+1-i)= [ch s i]:=qsa s hi';rw[ih om (qhW hc hrf) hi' (by rw[h1])]
   have:kz s i=zP [ch s i]:=by unfold kz zP;rw[hrf];simp[ch]
   rw[this]
theorem qo1(s:List UInt8):(qfi s).any zP=(List.range s.length).any (kz s):=by
 cases hs:s with
 |nil=>rfl
 |cons c r=>
  rw[<-hs];have h0:0<s.length:=by rw[hs];simp
  have hd:=qhG h0;have h1:(s.drop 0).take (1-0)= [ch s 0]:=qsa s h0
  have:=qkA (s:=s) _ rfl hd.1 h0 (by rw[h1])
  rw[<-lna ((kV 0 ((s.drop 0).take (1-0)) (s.drop 1)).map (·.2)),<-hd.2.2]at this;rw[this,List.range_eq_range',show s.length=(s.length-1)+1 by omega,List.range'_succ,List.any_cons]
  have:kz s 0=zP [ch s 0]:=by unfold kz zP;simp[ze,ch]
  rw[this];simp
theorem gK(s:List UInt8):zG s=if 65536<s.length then 4 else if (List.range s.length).any (kz s)=true then 11 else 0:=by unfold zG;rw[qo1]
theorem kH{p:Nat->Bool}{n i:Nat}(hi:i<n)(h:p i=true):(List.range n).any p=true:=List.any_eq_true.2 ⟨i,by simpa using hi,h⟩
theorem f6{p:Nat->Bool}{n:Nat}(h: ∀i,i<n->p i=false):(List.range n).any p=false:=by
 rw[List.any_eq_false];intro i hi;simp at hi;rw[h i hi];simp
theorem qE7(s:List UInt8)(h:we)(hs:s.length<=1000000000):ACalls Tryz.prog 162 [.str s] h (.int .i64 (zG s)) h:=by
 rw[gK]
 by_cases hl:65536<s.length
 ·have hl':(65536<(s.length:Int))=True:=wh;rw[ipo hl];refine qx qrG (by simp) ?_;simp only[lco,lnl,Nat.reduceAdd,Nat.reduceSub,List.replicate,lca,lna,lan];simp (disch:=omega) only[qsO,hl',go_sem,qm,dvP,mdP]
  repeat' first|exact v8|fail
 ·have hl':(65536<(s.length:Int))=False:=wi;rw[ine hl];refine qx qrG (by simp) ?_;simp only[lco,lnl,Nat.reduceAdd,Nat.reduceSub,List.replicate,lca,lna,lan];simp (disch:=omega) only[qsO,hl',go_sem,qm,dvP,mdP]
  repeat' first|(refine qI (t95 s _ hs) ?_ ?_;exact flk;simp (disch:=omega) only[hl',qbW,go_sem,qm,dvP,mdP])
  refine qt (T:=λi:Nat=>zg 34 [(0,.str s),(3,qbW (qbl s)),(4,.int .i64 i)]) (H:=λ_=>h) (inv:=λi=>i<=s.length∧ ∀j,j<i->kz s j=false) (m:=λi=>s.length-i) 0 ⟨om,om⟩ (Wk.temps ?_) ?_
  ·(simp only[qbW,zg,List.foldl,go_sem,qh,qf,qb,qg];try exact wa)
  ·rintro i ⟨i1,i2⟩ K hK;have hrl:(qbl s).length=s.length:=by simp[qbl]
   by_cases hi:i<s.length
   ·have hg:=qcZ hi
    by_cases hb:kz s i=true
    ·rw[ipo (kH hi hb)];unfold kz at hb;simp (disch:=omega) only[zg,List.foldl,qbW,hrl,hg,jP,go_sem,qm,dvP,mdP]
     repeat' first|(refine qI (qdW _ _) ?_ ?_;exact flk;simp (disch:=omega) only[qbW,hrl,hg,jP,go_sem,qm,dvP,mdP])|(apply qc;exact rvk;simp only[go_sem];first|exact qi|apply qe)|(with_reducible first|intro _|apply aiA)|exact clz|fail
     all_goals
      refine hK _ _ (i+1) ⟨om,?_⟩ om (Wk.temps ?_)
      ·exfalso;grind
      ·(simp only[qbW,hrl,zg,List.foldl,go_sem,qh,qf,qb,qg];try exact wa)
    ·have hb':kz s i=false:=by simpa using hb
     unfold kz at hb;simp (disch:=omega) only[zg,List.foldl,qbW,hrl,hg,jP,go_sem,qm,dvP,mdP]
     repeat' first|(refine qI (qdW _ _) ?_ ?_;exact flk;simp (disch:=omega) only[qbW,hrl,hg,jP,go_sem,qm,dvP,mdP])|(apply qc;exact rvk;simp only[go_sem];apply qe)|(with_reducible first|intro _|apply aiA)|exact clz|fail
     all_goals first
      |(exfalso;grind)
      |skip
     all_goals
      refine hK _ _ (i+1) ⟨om,λj hj=> ?_⟩ om (Wk.temps ?_)
      ·by_cases e:j=i
       ·subst e;exact hb'
       ·exact i2 j om
      ·(simp only[qbW,hrl,zg,List.foldl,go_sem,qh,qf,qb,qg];try exact wa)
   ·have e:i=s.length:=by omega
    subst e;rw[f6 i2];simp (disch:=omega) only[zg,List.foldl,go_sem,qm,dvP,mdP]
    repeat' first|exact v8|(with_reducible first|intro _|apply aiA)|exact clz|fail
end HY
end
section
open Go Go.Proofs AF HY
namespace HY
theorem qhY(b:UInt8):0<=kind b∧kind b<=6:=by
 unfold kind UM
 (repeat' split)<;>omega
theorem qwg(s:List UInt8)(p:UInt8->Bool):(List.range s.length).any (λi=>p (ch s i))=s.any p:=by
 rw[Bool.eq_iff_iff,List.any_eq_true,List.any_eq_true];constructor
 ·rintro⟨i,hi,h⟩;simp at hi;refine⟨s[i],List.getElem_mem hi,?_⟩;simpa[ch,hi] using h
 ·rintro⟨x,hx,h⟩;obtain⟨i,hi,rfl⟩:=List.mem_iff_getElem.1 hx;exact⟨i,by simpa using hi,by simpa[ch,hi] using h⟩
def spc(c:UInt8):Bool:=decide (kind c=5)||decide (kind c=6)
theorem qaj(s:List UInt8):jr s=(decide (0<s.length)&&decide (s.length<=64)&&decide (zG s=0)&&(decide (kind (ch s 0)=1)||decide (kind (ch s 0)=3))&& !((List.range s.length).any λi=>spc (ch s i))):=by
 rw[qwg];rfl
theorem t93(s:List UInt8)(h:we)(hs:s.length<=1000000000):ACalls Tryz.prog 89 [.str s] h (.bool (jr s)) h:=by
 obtain⟨c,hc⟩:=wc (zG s)
 have h118: ∀h:we,ACalls Tryz.prog 162 [.str s] h (.int .i64 c) h:=λh=>by rw[hc];exact qE7 s h hs
 rw[qaj,<-hc]
 by_cases g0:0<s.length∧s.length<=64∧c=0∧(kind (ch s 0)=1∨kind (ch s 0)=3)
 ·obtain⟨g1,g2,g3,g4⟩:=g0;have e:(decide (0<s.length)&&decide (s.length<=64)&&decide (c=0)&&(decide (kind (ch s 0)=1)||decide (kind (ch s 0)=3)))=true:=by simp[g1,g2,g3,g4]
  rw[e,Bool.true_and];have k1:((s.length:Int)<1)=False:=wi;have k2:(64<(s.length:Int))=False:=wi;refine qx qlc (by simp) ?_;simp only[lco,lnl,Nat.reduceAdd,Nat.reduceSub,List.replicate,lca,lna,lan];simp (disch:=omega) only[qvX,k1,k2,go_sem,qm,dvP,mdP]
  repeat' first|(refine qI (qdW _ _) ?_ ?_;exact flk;simp (disch:=omega) only[k1,k2,g3,jP,go_sem,qm,dvP,mdP])|(refine qN (λe=>⟨?_,h118 _⟩) ?_;exact flk;simp (disch:=omega) only[k1,k2,g3,jP,go_sem,qm,dvP,mdP])|(apply qc;exact rvk;simp only[go_sem];apply qd)|(with_reducible first|intro _|apply aiA)|exact clz|fail
  refine qt (T:=λi:Nat=>zg 38 [(0,.str s),(4,.int .i64 i)]) (H:=λ_=>h) (inv:=λi=>i<=s.length∧ ∀j,j<i->spc (ch s j)=false) (m:=λi=>s.length-i) 0 ⟨om,om⟩ (Wk.temps ?_) ?_
  ·(simp only[zg,List.foldl,go_sem,qh,qf,qb,qg];try exact wa)
  ·rintro i ⟨i1,i2⟩ K hK
   by_cases hi:i<s.length
   ·have hr:=qhY (ch s i);cases hb:spc (ch s i)with
    |true=>
     rw[kH hi hb];unfold spc at hb;have hk:(4<kind (ch s i))=True:=eqt (by grind);simp (disch:=omega) only[zg,List.foldl,jP,go_sem,qm,dvP,mdP]
     repeat' first|(refine qI (qdW _ _) ?_ ?_;exact flk;simp (disch:=omega) only[jP,hk,go_sem,qm,dvP,mdP])|(apply qc;exact rvk;simp only[go_sem];first|exact qi|apply qd)|(with_reducible first|intro _|apply aiA)|exact clz|fail
    |false=>
     have hk:(4<kind (ch s i))=False:=eqf (by unfold spc at hb;grind);simp (disch:=omega) only[zg,List.foldl,jP,go_sem,qm,dvP,mdP]
     repeat' first|(refine qI (qdW _ _) ?_ ?_;exact flk;simp (disch:=omega) only[jP,hk,go_sem,qm,dvP,mdP])|(apply qc;exact rvk;simp only[go_sem];apply qd)|(with_reducible first|intro _|apply aiA)|exact clz|fail
     refine hK _ _ (i+1) ⟨om,λj hj=> ?_⟩ om (Wk.temps ?_)
     ·by_cases e:j=i
      ·subst e;exact hb
      ·exact i2 j om
     ·(simp only[zg,List.foldl,go_sem,qh,qf,qb,qg];try exact wa)
   ·have e:i=s.length:=by omega
    subst e;rw[f6 i2];simp (disch:=omega) only[zg,List.foldl,go_sem,qm,dvP,mdP]
    repeat' first|exact v8|(with_reducible first|intro _|apply aiA)|exact clz|fail
 ·have e:(decide (0<s.length)&&decide (s.length<=64)&&decide (c=0)&&(decide (kind (ch s 0)=1)||decide (kind (ch s 0)=3)))=false:=by
   rw[Bool.eq_false_iff];intro h;simp only[Bool.and_eq_true,Bool.or_eq_true,decide_eq_true_eq]at h;exact g0 ⟨h.1.1.1,h.1.1.2,h.1.2,h.2⟩
  rw[e,Bool.false_and]
  by_cases g1:0<s.length
  ·by_cases g2:s.length<=64
   ·have k1:((s.length:Int)<1)=False:=wi;have k2:(64<(s.length:Int))=False:=wi
    by_cases g3:c=0
    ·have g4: ¬kind (ch s 0)=1∧ ¬kind (ch s 0)=3:=by
      constructor
      ·intro h;exact g0 ⟨g1,g2,g3,.inl h⟩
      ·intro h;exact g0 ⟨g1,g2,g3,.inr h⟩
     have g5:=g4.1;have g6:=g4.2;refine qx qlc (by simp) ?_;simp only[lco,lnl,Nat.reduceAdd,Nat.reduceSub,List.replicate,lca,lna,lan];simp (disch:=omega) only[qvX,k1,k2,go_sem,qm,dvP,mdP]
     repeat' first|(refine qI (qdW _ _) ?_ ?_;exact flk;simp (disch:=omega) only[k1,k2,g3,jP,g5,g6,go_sem,qm,dvP,mdP])|(refine qN (λe=>⟨?_,h118 _⟩) ?_;exact flk;simp (disch:=omega) only[k1,k2,g3,jP,g5,g6,go_sem,qm,dvP,mdP])|exact v8|with_reducible apply aiA|exact clz|fail
    ·refine qx qlc (by simp) ?_;simp only[lco,lnl,Nat.reduceAdd,Nat.reduceSub,List.replicate,lca,lna,lan];simp (disch:=omega) only[qvX,k1,k2,go_sem,qm,dvP,mdP]
     repeat' first|(refine qN (λe=>⟨?_,h118 _⟩) ?_;exact flk;simp (disch:=omega) only[k1,k2,g3,jP,go_sem,qm,dvP,mdP])|exact v8|fail
   ·have k1:((s.length:Int)<1)=False:=wi;have k2:(64<(s.length:Int))=True:=wh;refine qx qlc (by simp) ?_;simp only[lco,lnl,Nat.reduceAdd,Nat.reduceSub,List.replicate,lca,lna,lan];simp (disch:=omega) only[qvX,k1,k2,go_sem,qm,dvP,mdP]
    repeat' first|(refine ql ((.int .i64 0)) ?_;simp (disch:=omega) only[k1,k2,go_sem,qm,dvP,mdP])|exact v8|fail
  ·have k1:((s.length:Int)<1)=True:=wh;refine qx qlc (by simp) ?_;simp only[lco,lnl,Nat.reduceAdd,Nat.reduceSub,List.replicate,lca,lna,lan];simp (disch:=omega) only[qvX,k1,go_sem,qm,dvP,mdP]
   repeat' first|(refine ql ((.int .i64 0)) ?_;simp (disch:=omega) only[k1,go_sem,qm,dvP,mdP])|exact v8|fail
end HY
end
section
open Go Go.Proofs AF HY
namespace LN
theorem qhX(c:UInt8): ∀(s:List UInt8),s.count c=0->Go.Lib.indexByte s c= -1:=by
 intro s
 induction s with
 |nil=>intro _;rfl
 |cons b s ih=>
  intro h;unfold Go.Lib.indexByte;rw[List.count_cons]at h
  by_cases e:b=c
  ·subst e;simp at h
  ·rw[ine (by simpa using e),ih om];rfl
def ld(c:UInt8):Bool:=decide (kind c=1)||decide (kind c=3)
theorem t66(s:List UInt8)(h:we)(hs:s.length<=1000000000):ACalls Tryz.prog 253 [.str s] h (.int .i64 ((s.countP ld:Nat):Int)) h:=by
 refine qx qyy (by simp) ?_;simp only[lco,lnl,Nat.reduceAdd,Nat.reduceSub,List.replicate,lca,lna,lan];simp (disch:=omega) only[qwX,go_sem];refine qt (T:=λi:Nat=>zg 25 [(0,.str s),(3,.int .i64 (((s.take i).countP ld:Nat):Int)),(7,.int .i64 s.length),(8,.int .i64 i)]) (H:=λ_=>h) (inv:=λi=>i<=s.length) (m:=λi=>s.length-i) 0 om (Wk.temps ?_) ?_
 ·(simp only[zg,List.foldl,go_sem,qh,qf,qb,qg];try exact wa)
 ·rintro i i1 K hK
  by_cases hi:i<s.length
  ·obtain⟨c,hc⟩:=wc (s.getD i 0)
   have e1:(s[i]?).getD 0=c:=by rw[hc,gdqA]
   have e2:s.take (i+1)=s.take i++ [c]:=by rw[List.take_add_one,hc,gdqA,zH hi];rfl
   have hb:=c.toNat_lt;have c92:=λh=>qDY (c.toNat:Int) h om om
   have hn:(s.take i).countP ld<=s.length:=Nat.le_trans List.countP_le_length (by simp;omega);obtain⟨n,hN⟩:=wc ((s.take i).countP ld)
   rw[<-hN]at hn ⊢;obtain⟨k,hk⟩:=wc (UM (c.toNat:Int))
   have hk':k=kind c:=hk;rw[<-hk]at c92;have e3:(s.take (i+1)).countP ld=n+if ld c=true then 1 else 0:=by
    rw[e2,List.countP_append,<-hN];simp[List.countP_cons]
   by_cases g1:k=1
   ·have k1:(k=1)=True:=eqt g1;have g:ld c=true:=by unfold ld;rw[<-hk',g1];rfl
    rw[ipo g]at e3;simp (disch:=omega) only[zg,List.foldl,e1,go_sem]
    repeat' first|(refine qI (c92 _) ?_ ?_;exact flk;simp (disch:=omega) only[k1,go_sem,qm])|(apply qc;exact rvk;simp only[go_sem];apply qe)|(with_reducible first|intro _|apply aiA)|exact clz|fail
    refine hK _ _ (i+1) om om (Wk.temps ?_);rw[e3]
    (simp only[zg,List.foldl,go_sem,qh,qf,qb,qg];try exact wa)
   ·have k1:(k=1)=False:=eqf g1
    by_cases g2:k=3
    ·have k2:(k=3)=True:=eqt g2;have g:ld c=true:=by unfold ld;rw[<-hk',g2];rfl
     rw[ipo g]at e3;simp (disch:=omega) only[zg,List.foldl,e1,go_sem]
     repeat' first|(refine qI (c92 _) ?_ ?_;exact flk;simp (disch:=omega) only[k1,k2,go_sem,qm])|(apply qc;exact rvk;simp only[go_sem];apply qe)|(with_reducible first|intro _|apply aiA)|exact clz|fail
     refine hK _ _ (i+1) om om (Wk.temps ?_);rw[e3]
     (simp only[zg,List.foldl,go_sem,qh,qf,qb,qg];try exact wa)
    ·have k2:(k=3)=False:=eqf g2;have g: ¬ld c=true:=by unfold ld;rw[<-hk',dqf g1,dqf g2];simp
     rw[ine g]at e3;simp (disch:=omega) only[zg,List.foldl,e1,go_sem]
     repeat' first|(refine qI (c92 _) ?_ ?_;exact flk;simp (disch:=omega) only[k1,k2,go_sem,qm])|(apply qc;exact rvk;simp only[go_sem];apply qe)|(with_reducible first|intro _|apply aiA)|exact clz|fail
     refine hK _ _ (i+1) om om (Wk.temps ?_);rw[e3,Nat.add_zero]
     (simp only[zg,List.foldl,go_sem,qh,qf,qb,qg];try exact wa)
  ·have e:i=s.length:=by omega
   subst e;rw[List.take_length];simp (disch:=omega) only[zg,List.foldl,go_sem]
   repeat' first|exact v8|(with_reducible first|intro _|apply aiA)|exact clz|fail
def dA(s:List UInt8):Bool:=decide (s≠ [])&&(decide (s.length<=16)&&decide (s.countP ld=s.length))
theorem t44(s:List UInt8)(h:we)(hs:s.length<=1000000000):ACalls Tryz.prog 181 [.str s] h (.bool (dA s)) h:=by
 have c66:=λh=>t66 s h hs
 unfold dA
 by_cases g1:s= []
 ·have k1:(s= [])=True:=eqt g1;rw[dqf (show¬s≠ []from λhc=>hc g1)];refine qx qgu (by simp) ?_;simp only[lco,lnl,Nat.reduceAdd,Nat.reduceSub,List.replicate,lca,lna,lan];simp (disch:=omega) only[qj6,k1,go_sem]
  repeat' first|(refine ql ((.int .i64 0)) ?_;simp (disch:=omega) only[go_sem])|exact v8|(with_reducible first|intro _|apply aiA)|exact clz|fail
 ·have k1:(s= [])=False:=eqf g1;rw[dqt (show s≠ []from g1)]
  by_cases g2:s.length<=16
  ·have k2:((s.length:Int)<=16)=True:=wh;rw[dqt g2]
   by_cases g3:s.countP ld=s.length
   ·have k3:(((s.countP ld:Nat):Int)=s.length)=True:=wh;rw[dqt g3];refine qx qgu (by simp) ?_;simp only[lco,lnl,Nat.reduceAdd,Nat.reduceSub,List.replicate,lca,lna,lan];simp (disch:=omega) only[qj6,k1,k2,go_sem]
    repeat' first|(refine qN (λe=>⟨?_,c66 _⟩) ?_;exact flk;simp (disch:=omega) only[k3,go_sem])|exact v8|fail
   ·have k3:(((s.countP ld:Nat):Int)=s.length)=False:=wi;rw[dqf g3];refine qx qgu (by simp) ?_;simp only[lco,lnl,Nat.reduceAdd,Nat.reduceSub,List.replicate,lca,lna,lan];simp (disch:=omega) only[qj6,k1,k2,go_sem]
    repeat' first|(refine qN (λe=>⟨?_,c66 _⟩) ?_;exact flk;simp (disch:=omega) only[k3,go_sem])|exact v8|fail
  ·have k2:((s.length:Int)<=16)=False:=wi;rw[dqf g2];refine qx qgu (by simp) ?_;simp only[lco,lnl,Nat.reduceAdd,Nat.reduceSub,List.replicate,lca,lna,lan];simp (disch:=omega) only[qj6,k1,k2,go_sem]
   repeat' first|(refine ql ((.int .i64 0)) ?_;simp (disch:=omega) only[go_sem])|exact v8|fail
theorem t77(s:List UInt8)(h:we)(hs:s.length<=1000000000):ACalls Tryz.prog 210 [.str s] h (.int .i64 ((s.countP ld:Nat):Int)) h:=by
 refine qx qym (by simp) ?_;simp only[lco,lnl,Nat.reduceAdd,Nat.reduceSub,List.replicate,lca,lna,lan];simp (disch:=omega) only[qwM,go_sem];refine qt (T:=λi:Nat=>zg 25 [(0,.str s),(3,.int .i64 (((s.take i).countP ld:Nat):Int)),(4,.int .i64 i)]) (H:=λ_=>h) (inv:=λi=>i<=s.length) (m:=λi=>s.length-i) 0 om (Wk.temps ?_) ?_
 ·(simp only[zg,List.foldl,go_sem,qh,qf,qb,qg];try exact wa)
 ·rintro i i1 K hK
  by_cases hi:i<s.length
  ·obtain⟨c,hc⟩:=wc (s.getD i 0)
   have e1:(s[i]?).getD 0=c:=by rw[hc,gdqA]
   have e2:s.take (i+1)=s.take i++ [c]:=by rw[List.take_add_one,hc,gdqA,zH hi];rfl
   have c55:=λh=>qD0 (c.toNat:Int) h
   have hn:(s.take i).countP ld<=s.length:=Nat.le_trans List.countP_le_length (by simp;omega);obtain⟨n,hN⟩:=wc ((s.take i).countP ld)
   rw[<-hN]at hn ⊢;obtain⟨k,hk⟩:=wc (UM (c.toNat:Int))
   have hk':k=kind c:=hk;rw[<-hk]at c55;have e3:(s.take (i+1)).countP ld=n+if ld c=true then 1 else 0:=by
    rw[e2,List.countP_append,<-hN];simp[List.countP_cons]
   have q0:((i:Int)<s.length)=True:=wh
   by_cases g1:k=1
   ·have k1:(k=1)=True:=eqt g1;have g:ld c=true:=by unfold ld;rw[<-hk',g1];rfl
    rw[ipo g]at e3;simp (disch:=omega) only[zg,List.foldl,e1,q0,go_sem]
    repeat' first|(refine qI (c55 _) ?_ ?_;exact flk;simp (disch:=omega) only[k1,go_sem,qm])|with_reducible apply aiA|exact clz|fail
    refine hK _ _ (i+1) om om (Wk.temps ?_);rw[e3]
    (simp only[zg,List.foldl,go_sem,qh,qf,qb,qg];try exact wa)
   ·have k1:(k=1)=False:=eqf g1
    by_cases g2:k=3
    ·have k2:(k=3)=True:=eqt g2;have g:ld c=true:=by unfold ld;rw[<-hk',g2];rfl
     rw[ipo g]at e3;simp (disch:=omega) only[zg,List.foldl,e1,q0,go_sem]
     repeat' first|(refine qI (c55 _) ?_ ?_;exact flk;simp (disch:=omega) only[k1,k2,go_sem,qm])|with_reducible apply aiA|exact clz|fail
     refine hK _ _ (i+1) om om (Wk.temps ?_);rw[e3]
     (simp only[zg,List.foldl,go_sem,qh,qf,qb,qg];try exact wa)
    ·have k2:(k=3)=False:=eqf g2;have g:ld c=false:=by unfold ld;rw[<-hk',dqf g1,dqf g2];rfl
     rw[ine (by rw[g];simp)]at e3;simp (disch:=omega) only[zg,List.foldl,e1,q0,go_sem]
     repeat' first|(refine qI (c55 _) ?_ ?_;exact flk;simp (disch:=omega) only[k1,k2,go_sem,qm])|with_reducible apply aiA|exact clz|fail
     refine hK _ _ (i+1) om om (Wk.temps ?_);rw[e3]
     (simp only[zg,List.foldl,go_sem,qh,qf,qb,qg];try exact wa)
  ·have e:i=s.length:=by omega
   subst e;rw[List.take_length];have q0:((s.length:Int)<s.length)=False:=wi;simp (disch:=omega) only[zg,List.foldl,q0,go_sem]
   repeat' first|exact v8|fail
theorem qlM{s:List UInt8}(h1:s≠ [])(h2:s.length<=16)(h3:s.countP ld=s.length):jr s=true:=by
 have hall: ∀c∈s,ld c=true:=List.countP_eq_length.1 h3;have hch: ∀i,i<s.length->kind (ch s i)=1∨kind (ch s i)=3:=by
  intro i hi;have hm:ch s i∈s:=by
   have e:ch s i=s[i]:=by simp[ch,hi]
   rw[e];exact List.getElem_mem hi
  have:=hall _ hm
  unfold ld at this;simpa using this
 have hp:0<s.length:=List.length_pos_iff.2 h1;have hc:zG s=0:=by
  rw[gK,ine om,ine];rw[List.any_eq_true];rintro⟨i,hi,hb⟩
  have:=hch i (List.mem_range.1 hi)
  unfold kz at hb;rcases this with h|h<;>rw[h]at hb<;>simp at hb
 rw[qaj,dqt hp,dqt (show s.length<=64 by omega),dqt hc];have h0:=hch 0 hp;have e0:(decide (kind (ch s 0)=1)||decide (kind (ch s 0)=3))=true:=by simpa using h0
 rw[e0];have ea:((List.range s.length).any λi=>spc (ch s i))=false:=by
  rw[List.any_eq_false];intro i hi
  have:=hch i (List.mem_range.1 hi)
  unfold spc;rcases this with h|h<;>rw[h]<;>decide
 rw[ea];rfl
theorem t53(s:List UInt8)(h:we)(hs:s.length<=1000000000):ACalls Tryz.prog 136 [.str s] h (.bool (dA s)) h:=by
 have c76:=λh=>t93 s h hs
 have c77:=λh=>t77 s h hs
 unfold dA
 by_cases g2:s.length<=16
 ·have k2:((s.length:Int)<=16)=True:=wh;rw[dqt g2,Bool.true_and]
  by_cases g3:s.countP ld=s.length
  ·have k3:((s.countP ld:Int)=s.length)=True:=wh;rw[dqt g3,Bool.and_true]
   by_cases g1:s= []
   ·rw[dqf (λhc=>hc g1)];have hw:jr s=false:=by subst g1;rw[qaj];rfl
    rw[hw]at c76;refine qx qeu (by simp) ?_;simp only[lco,lnl,Nat.reduceAdd,Nat.reduceSub,List.replicate,lca,lna,lan];simp (disch:=omega) only[qhu,k2,go_sem]
    repeat' first|(refine ql ((.int .i64 0)) ?_;simp (disch:=omega) only[go_sem])|(refine qN (λe=>⟨?_,c76 _⟩) ?_;exact flk;simp (disch:=omega) only[go_sem])|exact v8|fail
   ·rw[dqt g1];rw[qlM g1 g2 g3]at c76;refine qx qeu (by simp) ?_;simp only[lco,lnl,Nat.reduceAdd,Nat.reduceSub,List.replicate,lca,lna,lan];simp (disch:=omega) only[qhu,k2,go_sem]
    repeat' first|((first|refine qN (λe=>⟨?_,c76 _⟩) ?_|refine qN (λe=>⟨?_,c77 _⟩) ?_);exact flk;simp (disch:=omega) only[k3,go_sem])|exact v8|fail
  ·have k3:((s.countP ld:Int)=s.length)=False:=wi;rw[dqf g3,Bool.and_false];cases hw:jr s with
   |false=>
    rw[hw]at c76;refine qx qeu (by simp) ?_;simp only[lco,lnl,Nat.reduceAdd,Nat.reduceSub,List.replicate,lca,lna,lan];simp (disch:=omega) only[qhu,k2,go_sem]
    repeat' first|(refine ql ((.int .i64 0)) ?_;simp (disch:=omega) only[go_sem])|(refine qN (λe=>⟨?_,c76 _⟩) ?_;exact flk;simp (disch:=omega) only[go_sem])|exact v8|fail
   |true=>
    rw[hw]at c76;refine qx qeu (by simp) ?_;simp only[lco,lnl,Nat.reduceAdd,Nat.reduceSub,List.replicate,lca,lna,lan];simp (disch:=omega) only[qhu,k2,go_sem]
    repeat' first|((first|refine qN (λe=>⟨?_,c76 _⟩) ?_|refine qN (λe=>⟨?_,c77 _⟩) ?_);exact flk;simp (disch:=omega) only[k3,go_sem])|exact v8|fail
 ·have k2:((s.length:Int)<=16)=False:=wi;rw[dqf g2,Bool.false_and,Bool.and_false];refine qx qeu (by simp) ?_;simp only[lco,lnl,Nat.reduceAdd,Nat.reduceSub,List.replicate,lca,lna,lan];simp (disch:=omega) only[qhu,k2,go_sem]
  repeat' first|(refine ql ((.bool false)) ?_;simp (disch:=omega) only[go_sem])|exact v8|fail
end LN
end
section
open Go Go.Proofs AF HY
namespace HY
theorem qDZ(s:List UInt8)(f a:Nat)(h:we)(hf:f<s.length):ACalls Tryz.prog 336 [.str s,.int .i64 f,.int .i64 a] h (.bool (decide (kind (ch s f)=1)&&decide (f<a))) h:=by
 refine qx qyR (by simp) ?_;simp only[lco,lnl,Nat.reduceAdd,Nat.reduceSub,List.replicate,lca,lna,lan];simp (disch:=omega) only[qxd,jP,go_sem]
 repeat' first|(refine qI (qa7 _ _) ?_ ?_;exact flk;simp (disch:=omega) only[go_sem])|(apply qc;exact rvk;simp only[go_sem];apply qd)|with_reducible apply aiA
 all_goals first
  |omega
  |(congr 1;exact decide_eq_decide.2 om)
  |skip
theorem qCD(s:List UInt8)(hs:s.length<=1000000000):qi8 Tryz.prog 335 [.ip [.str s]] ((zJ s).map λx=> [.int .i64 (x.1:Int),.str x.2]):=by
 intro h ts L S E hS hE body start hts;refine qaJ qyQ (by simp) ?_;simp only[lco,lnl,Nat.reduceAdd,Nat.reduceSub,List.replicate,lca,lna,lan];simp (disch:=omega) only[qxc,go_sem]
 all_goals first
  |omega
  |skip
 refine qt (T:=λi:Nat×Nat×Nat×we=>zg 37 [(0,.yld h.length),(1,.ip [.str s]),(3,.int .i64 i.1),(4,.int .i64 i.2.1)]) (H:=λi=>i.2.2.2++ [.lp .ready ts L])
  (inv:=λi=>S i.2.2.1 i.2.2.2∧((i.2.1<=s.length∧i.1<i.2.1∧(zJ s).drop i.2.2.1=kV i.1 ((s.drop i.1).take (i.2.1-i.1)) (s.drop i.2.1))∨(s.length<i.2.1∧i.2.1<=s.length+1∧i.2.2.1=(zJ s).length))) (m:=λi=>s.length+1-i.2.1) (0,1,0,h) ⟨start,?_⟩ (Wk.temps ?_) ?_
 ·simp only;cases s with
  |nil=>right;simp[zJ]
  |cons c r=>left;simp[zJ]
 ·(simp only[zg,List.foldl,go_sem,qh,qf,qg];try exact wa)
 ·rintro⟨f,i,j,hh⟩ ⟨i1,i2⟩ K hK;simp only at i1 i2 hK;obtain⟨hlen,hlow⟩:=hS _ _ i1;rcases i2 with⟨g1,g2,g3⟩|⟨g1,g2,rfl⟩
  ·have hjl:j<(zJ s).length:=by
    have:(zJ s).drop j≠ []:=by rw[g3];exact qo0 _ _ _
    by_cases hj:j<(zJ s).length
    ·exact hj
    ·exact absurd (List.drop_of_length_le om) this
   by_cases hk:i<s.length∧kind (ch s i)=2∧kind (ch s f)=1
   ·have hst:=qbY g2 hk.1;rw[ipo hk.2]at hst;simp (disch:=omega) only[zg,List.foldl,jP,go_sem]
    repeat' first|((first|refine qN (λe=>⟨?_,qa7 _ _⟩) ?_|refine qN (λe=>⟨?_,qDZ s f i _ om⟩) ?_);exact flk;simp (disch:=omega) only[hk.2.1,hk.2.2,go_sem,qm])|(with_reducible first|intro _|apply aiA)
    all_goals first
     |omega
     |skip
    refine hK _ _ (f,i+1,j,hh) ⟨i1,.inl ⟨by simp only;omega,by simp only;omega,by rw[g3,hst]⟩⟩ (by simp only;omega) (Wk.temps ?_)
    (simp only[zg,List.foldl,go_sem,qh,qf,qb,qg];try exact wa)
   ·obtain⟨rest,hrest,hr1⟩: ∃rest,(zJ s).drop j=(f,(s.drop f).take (i-f))::rest∧(if i<s.length then rest=kV i ((s.drop i).take (i+1-i)) (s.drop (i+1)) else rest= []):=by
     by_cases hi:i<s.length
     ·have hst:=qbY g2 hi;rw[ine (λh=>hk ⟨hi,h⟩)]at hst;exact⟨_,g3.trans hst,by rw[ipo hi]⟩
     ·refine⟨[],?_,by rw[ine hi]⟩;rw[g3,show s.drop i= []from List.drop_of_length_le om];rfl
    rw[List.drop_eq_getElem_cons hjl]at hrest;obtain⟨hget,hdrop⟩:=List.cons.inj hrest;have hb:=body j hh [] (by simpa using hjl) i1;rw[List.getElem_map,hget]at hb;simp only at hb;have hfit:(i:Int)-f=((i-f:Nat):Int):=by omega
    simp (disch:=omega) only[zg,List.foldl,jP,go_sem]
    repeat' first|((first|refine qN (λe=>⟨?_,qa7 _ _⟩) ?_|refine qN (λe=>⟨?_,qDZ s f i _ om⟩) ?_);exact flk;simp (disch:=omega) only[go_sem,qm])|(with_reducible first|intro _|apply aiA)
    all_goals first
     |omega
     |exact⟨.ready,ts,L,jW hlen⟩
     |skip
    refine jD.mono ?_ hb;rintro v h' ⟨hh',⟨rfl,hn,rfl⟩|⟨st,rfl,hs',rfl⟩⟩
    ·simp (disch:=omega) only[go_sem,qm]
     all_goals first
      |omega
      |(rename_i hx;revert hx;simp;done)
      |skip
     by_cases hi:i<s.length
     ·rw[ipo hi]at hr1;refine hK _ _ (i,i+1,j+1,hh') ⟨hn,.inl ⟨by simp only;omega,by simp only;omega,by simp only;rw[hdrop,hr1]⟩⟩ (by simp only;omega) (Wk.temps ?_)
      (simp only[zg,List.foldl,go_sem,qh,qf,qb,qg];try exact wa)
     ·rw[ine hi]at hr1;refine hK _ _ (i,i+1,j+1,hh') ⟨hn,.inr ⟨by simp only;omega,by simp only;omega,?_⟩⟩ (by simp only;omega) (Wk.temps ?_)
      ·have:((zJ s).drop (j+1)).length=0:=by rw[hdrop,hr1];rfl
       rw[List.length_drop]at this;simp only;omega
      ·(simp only[zg,List.foldl,go_sem,qh,qf,qb,qg];try exact wa)
    ·simp (disch:=omega) only[go_sem,qm];obtain⟨r1,r2⟩:=(hE _ _ hs').ret (L:=L) st hts;exact qgy trivial r1 r2 ⟨_,.inr ⟨st,hs',rfl⟩⟩ (qi)
  ·simp (disch:=omega) only[zg,List.foldl,go_sem]
   repeat' first|(with_reducible first|intro _|apply aiA)
   all_goals first
    |omega
    |skip
   obtain⟨r1,r2⟩:=(hS _ _ i1).ret (L:=L) .ready hts;exact zQ trivial r1 r2 ⟨hh,.inl ⟨by simpa using i1,rfl⟩⟩ (qi)
def qkz(s:List UInt8):AV:= .fn (.func 335) [] [.ip [.str s]]
def qeo(s:List UInt8):List wg:=(zJ s).map λx=> [.int .i64 (x.1:Int),.str x.2]
theorem qep(s:List UInt8):(qeo s).length=(qfi s).length:=by simp[qeo,qfi]
theorem qkC(s:List UInt8){i:Nat}(hi:i<(qeo s).length): ∃n:Nat,(qeo s)[i]= [.int .i64 (n:Int),.str ((qfi s).getD i [])]:=by
 have h1:i<(zJ s).length:=by simpa[qeo] using hi
 refine⟨((zJ s)[i]).1,?_⟩;simp[qeo,qfi,gdqA,h1]
theorem t91(s:List UInt8)(h:we):ACalls Tryz.prog 280 [.str s] h (qkz s) h:=by
 refine qx qyG (by simp) ?_;simp only[lco,lnl,Nat.reduceAdd,Nat.reduceSub,List.replicate,lca,lna];simp (disch:=omega) only[qw3,go_sem]
 repeat' first|exact v7|fail
theorem qhM(s:List UInt8):(qkz s).flag=true:=rfl
theorem qfX(s:List UInt8):(qkz s).strip=qkz s:=rfl
attribute [go_sem] qhM qfX
theorem _root_.AF.LowI.app{h a b:we}(e:b.length=a.length)(hb: ∀o∈b,o∈a∨(lowO (h.length+a.length) o∧lowO (h.length+a.length+1) o)):LowI (h++a) (h++b):=by
 refine⟨by simp[e],λo ho=> ?_⟩;rw[lap];rcases List.mem_append.1 ho with ho|ho
 ·exact .inl (List.mem_append_left _ ho)
 ·rcases hb o ho with h1|h1
  ·exact .inl (List.mem_append_right _ h1)
  ·exact .inr h1
theorem qnv(l:List (List UInt8)){i:Nat}(h:i<l.length):l.take (i+1)=l.take i++ [l.getD i []]:=by
 rw[List.take_add_one,zH h];simp[gdqA,h]
theorem qda{l:List (List UInt8)}{p:List UInt8->Bool}{i:Nat}(h:i<l.length):(l.take (i+1)).any p=((l.take i).any p||p (l.getD i [])):=by
 rw[qnv l h,List.any_append];simp
theorem qwf{l:List (List UInt8)}{p:List UInt8->Bool}{i:Nat}(h:i<l.length)(hp:p (l.getD i [])=true):l.any p=true:=by
 rw[List.any_eq_true];refine⟨l.getD i [],?_,hp⟩;rw[gdqA,zH h];exact List.getElem_mem h
theorem qtf{s:List UInt8}{i:Nat}(h:i<(qfi s).length):0<((qfi s).getD i []).length:=by
 apply List.length_pos_iff.2;apply qtg (s:=s);rw[gdqA,zH h];exact List.getElem_mem h
set_option maxHeartbeats 4000000 in
theorem qC3(s:List UInt8)(h:we)(hs:s.length<=1000000000):ACalls Tryz.prog 219 [.str s] h (.int .i64 (zG s)) h:=by
 have hit:=qCD s hs;unfold zG
 by_cases hl:65536<s.length
 ·have hl':(65536<(s.length:Int))=True:=wh;rw[ipo hl];refine qx qrL (by simp) ?_;simp only[lco,lnl,Nat.reduceAdd,Nat.reduceSub,List.replicate,lca,lna];simp (disch:=omega) only[qsS,hl',go_sem]
  repeat' first|exact v7|fail
  all_goals trace_state
 ·have hl':(65536<(s.length:Int))=False:=wi;rw[ine hl];refine qx qrL (by simp) ?_;simp only[lco,lnl,Nat.reduceAdd,Nat.reduceSub,List.replicate,lca,lna];simp (disch:=omega) only[qsS,hl',go_sem]
  repeat' first|(refine qI (t91 s _) ?_ ?_;exact flk;simp (disch:=omega) only[go_sem])
  refine qid (xs:=qeo s) hit (by intro a ha;simp[qeo]at ha;obtain⟨_,_,_,rfl⟩:=ha;rfl)
   (S:=λi hh=>hh=h++ [.mem 1 28 [.int .i64 0]]∧((qfi s).take i).any zP=false)
   (E:=λe hh=>e= .ret∧hh=h++ [.mem 1 28 [.int .i64 11]]∧(qfi s).any zP=true) ?_ ?_ ?_ ?_ ?_ ?_ ?_
  ·rintro i hh ⟨rfl,_⟩;exact LowI.refl _
  ·rintro e hh ⟨_,rfl,_⟩;refine LowI.app rfl (λo ho=> ?_);simp only[List.mem_cons,List.not_mem_nil,or_false]at ho;subst ho;right;constructor<;>(intro c hc;simp at hc;subst hc;rfl)
  ·exact⟨rfl,by simp⟩
  ·simp[qS,qS.lowVs,qkz]
   try omega
  ·rintro i hh tl L hi ⟨rfl,hno⟩ hlen;obtain⟨n,hx⟩:=qkC s hi;rw[qep]at hi;rw[hx];have hnx:=qda (p:=zP) hi;rw[hno,Bool.false_or]at hnx;have hat:=qwf (p:=zP) hi;obtain⟨c,hc⟩:=wc ((qfi s).getD i [])
   have hcl:=qtf hi;rw[<-hc]at hcl hnx hat ⊢;simp only[jV];simp (disch:=omega) only[List.append_assoc,eq_self,jP,go_sem]
   repeat' first|(refine qI (qa7 _ _) ?_ ?_;exact flk;simp (disch:=omega) only[eq_self,go_sem])|(with_reducible first|intro _|apply aiA)|exact clz|fail
   ·rename_i hx;exact⟨h++ [.mem 1 28 [.int .i64 11]],by simp,by simp,by simp,hat (by unfold zP;simpa using hx)⟩
   ·rename_i hx;exact⟨h++ [.mem 1 28 [.int .i64 0]],by simp,by simp,by simp,by rw[hnx];unfold zP;simpa using hx⟩
  ·rintro hh ⟨rfl,hno⟩;rw[qep,List.take_length]at hno;rw[hno];simp (disch:=omega) only[go_sem]
   repeat' first|exact v7|fail
   all_goals trace_state
  ·rintro e hh ⟨rfl,rfl,hb⟩;rw[hb];show Ex.inBlock 0 _ .ret _ _;simp (disch:=omega) only[go_sem]
   repeat' first|exact v7|fail
   all_goals trace_state
end HY
end
