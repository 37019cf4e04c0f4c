import Derived.KernelRfl
import Derived.Test.YtiiegfkjmnoijaaGreatDoorK7
import Derived.Test.YtiiegfkjmnoijaaGreatDoorK5
import Derived.Test.YtiiegfkjmnoijaaGreatDoorK3
import Derived.Test.YtiiegfkjmnoijaaGreatDoorProg
import Derived.Test.YtiiegfkjmnoijaaGreatDoorK4
set_option linter.all false
set_option maxRecDepth 100000
section
namespace AF
open Go
theorem fi{P:Program}{f:Nat}(fn:Func)(js:List Tmp)(imp:List FuncId)(wks:List Nat){nt ns:Nat}{rs:List RV}{c:C}(h1:P.funcs[f]? =some fn:=by kernel_rfl)
  (h2 : (fn.body.isSome && (fn.name != "runtime.NumGoroutine")) = true := by kernel_rfl) (h3 : (fn.ntmps, js.length) = (nt, ns) := by kernel_rfl) (h4 : (rC P fn.results.toList, cv P js imp wks (fn.body.getD .skip)) = (some rs, some c) := by kernel_rfl) : qN P f nt ns rs c := by
 cases hb:fn.body with
 |none=>rw[hb]at h2;cases h2
 |some body=>
  rw[hb]at h2 h4;cases h3;simp only[Prod.mk.injEq]at h4;exact⟨fn,body,js,imp,wks,h1,hb,by simpa using h2,rfl,rfl,h4.1,h4.2⟩
def yM(p:Nat->Bool):Nat->Nat->Int
 |0,_=> -1
 |k+1,i=>if p i=true then i else yM p k (i+1)
theorem iW{p:Nat->Bool}{n i:Nat}(hi:i<=n)(h: ∀j,j<i->p j=false):yM p n 0=yM p (n-i) i:=by
 induction i with
 |zero=>rfl
 |succ i ih=>
  rw[ih om (λj hj=>h j om),show n-i=(n-(i+1))+1 by omega];simp only[yM,h i om,Bool.false_eq_true,if_false]
theorem wv{p:Nat->Bool}{n i:Nat}(hi:i<n)(h: ∀j,j<i->p j=false)(hp:p i=true):yM p n 0=i:=by
 rw[iW om h,show n-i=(n-i-1)+1 by omega];unfold yM;rw[hp];rfl
theorem cD{p:Nat->Bool}{n:Nat}(h: ∀j,j<n->p j=false):yM p n 0= -1:=by
 rw[iW (nlr n) h,Nat.sub_self];rfl
theorem zI(p:Nat->Bool)(n:Nat):(∃i,i<n∧p i=true∧(∀j,j<i->p j=false)∧yM p n 0=i)∨((∀j,j<n->p j=false)∧yM p n 0= -1):=by
 induction n with
 |zero=>exact .inr ⟨λj hj=>by omega,rfl⟩
 |succ n ih=>
  by_cases h: ∃i,i<n+1∧p i=true
  ·rcases ih with⟨i,h1,h2,h3,h4⟩|⟨h1,h2⟩
   ·exact .inl ⟨i,om,h2,h3,wv om h3 h2⟩
   ·obtain⟨i,h3,h4⟩:=h;have e:i=n:=by
     by_cases e:i<n
     ·rw[h1 i e]at h4;cases h4
     ·omega
    subst e;exact .inl ⟨i,h3,h4,h1,wv h3 h1 h4⟩
  ·refine .inr ?_;have h': ∀j,j<n+1->p j=false:=λj hj=>by
    cases e:p j with
    |false=>rfl
    |true=>exact absurd ⟨j,hj,e⟩ h
   exact⟨h',cD h'⟩
def jx(p:Nat->Bool)(n:Nat):Bool:=decide (0<=yM p n 0)
theorem qS{p:Nat->Bool}{n:Nat}:jx p n=true↔ ∃i,i<n∧p i=true:=by
 unfold jx;rw[decide_eq_true_iff];rcases zI p n with⟨i,h1,h2,_,h4⟩|⟨h1,h2⟩
 ·rw[h4];exact⟨λ_=>⟨i,h1,h2⟩,λ_=>by omega⟩
 ·rw[h2];exact⟨λh=>by omega,λ⟨i,h3,h4⟩=>by rw[h1 i h3]at h4;cases h4⟩
theorem qr{p:Nat->Bool}{n:Nat}:jx p n=false↔ ∀i,i<n->p i=false:=by
 constructor
 ·intro h i hi;cases e:p i with
  |false=>rfl
  |true=>rw[qS.2 ⟨i,hi,e⟩]at h;cases h
 ·intro h;cases e:jx p n with
  |false=>rfl
  |true=>
   obtain⟨i,h1,h2⟩:=qS.1 e;rw[h i h1]at h2;cases h2
def cIX:C:=
 (v6 [vU 4 0] ((v6 [MV 6 0,O1 7 .len 6,vU 8 0] (C.block 0 (v6 [BI 9 .lss 8 7] ((v8 9 0).seq ((C.block 1 (v6 [MV 10 8,MV 5 10] (v6 [MV 11 1,MV 12 0,MV 13 5,O2 14 (.idxA 1) 12
 13,LD 15 14,BI 16 .eql 11 15] (v7 16 (wa [MV 17 5,MV 4 17]))))).seq (wc [vV 18 .add 8 1,MV 8 18])))).loop)).seq (wa [MC 4 (i6 (-1))])))
def cIF(z:Nat)(m:Option Nat):C:=
 ((C.ops [MC 4 (i6 0)]).seq (((C.ops [MV 6 0,O1 7 .len 6,MC 8 (i6 0)]).seq (C.block 0 ((C.ops [BI 9 .lss 8 7]).seq ((C.cond (.t 9) C.skip (C.exit 0)).seq ((C.block 1 ((C.ops [MV 10 8,MV 5 10]).seq ((C.ops [MV 11 1,MV 12 0,MV 13 5,O2 14 (.idxA z) 12 13,O1 15 (.load m) 14,O2 16 .callv 11 15]).seq (C.cond (.t 16) ((C.ops [MV 17 5,MV 4 17]).seq C.ret) C.skip)))).seq (C.ops [BC 18 .add 8 (i6 1),MV 8 18])))).loop)).seq ((C.ops [MC 4 (i6 (-1))]).seq C.ret)))
def cCT(g:Nat):C:=((C.ops [MC 4 (.bool false)]).seq ((C.ops [MV 5 0,MV 6 1,O2 7 (.call g true) 5 6,BC 8 .geq 7 (i6 0),MV 4 8]).seq C.ret))
def cEQ:C:=
 (v6 [MC 4 (.bool false)] ((v6 [MV 6 0,O1 7 .len 6,MV 8 1,O1 9 .len 8,BI 10 .neq 7 9] (v7 10 (wa [MC 4 (.bool false)]))).seq ((v6 [MV 11 0,O1 12 .len 11,vU 13 0] (C.block 0 (v6
 [BI 14 .lss 13 12] ((v8 14 0).seq ((C.block 1 (v6 [MV 15 13,MV 5 15] (v6 [MV 16 0,MV 17 5,O2 18 (.idxA 1) 16 17,LD 19 18,MV 20 1,MV 21 5,O2 22 (.idxA 1) 20 21,LD 23 22,BI 24
 .neq 19 23] (v7 24 (wa [MC 4 (.bool false)]))))).seq (wc [vV 25 .add 13 1,MV 13 25])))).loop)).seq (wa [MC 4 (.bool true)]))))
inductive At where
 |s (x:List UInt8)
 |i (n:Int)
 deriving DecidableEq
def At.v:At->AV
 | .s x=> .str x
 | .i n=> .int .i64 n
def At.k:At->Bool
 | .s _=>true
 | .i _=>false
theorem At.strip(a:At):a.v.strip=a.v:=by cases a<;>rfl
theorem At.flag(a:At):a.v.flag=true:=by cases a<;>rfl
theorem At.solid(a:At):a.v.solid=true:=by cases a<;>rfl
theorem At.eql{a b:At}(h:a.k=b.k):xl .eql a.v b.v=True∧xg .eql a.v b.v= .bool (decide (a=b)):=by
 cases a<;>cases b<;>simp_all [At.v,At.k,xl,xg]
theorem At.neq{a b:At}(h:a.k=b.k):xl .neq a.v b.v=True∧xg .neq a.v b.v= .bool (!decide (a=b)):=by
 cases a<;>cases b<;>simp_all [At.v,At.k,xl,xg]
set_option maxHeartbeats 1000000
theorem OH{P:Program}{f:Nat}(hf:qN P f 19 0 [RV.tmp 4] cIX)(n:Nat)(g:Nat->At)(x:At)(h:w6)(hk: ∀i,i<n->x.k=(g i).k)(hn:n<=9223372036854775807):
  ACalls P f [.sl n (λi=> [(g i).v]),x.v] h (.int .i64 (yM (λi=>decide (x=g i)) n 0)) h:=by
 have s1:=x.strip;have s2:=x.flag;refine acO hf ?_;simp (disch:=omega) only[cIX,go_sem];refine qp (T:=λi:Nat=>zw 19 [(0,.sl n (λi=> [(g i).v])),(1,x.v),(6,.sl n (λi=> [(g i).v])),(7,.int .i64 n),(8,.int .i64 i)]) (H:=λ_=>h) (inv:=λi=>i<=n∧ ∀j,j<i->decide (x=g j)=false) (m:=λi=>n-i) 0 ⟨nzl _,λj hj=>by omega⟩ (Wk.temps ?_) ?_
 ·exact tmq
 rintro i ⟨i1,i2⟩ K hK
 by_cases hi:i<n
 ·have k1:((i:Int)<n)=True:=xv;obtain⟨e1,e2⟩:=At.eql (hk i hi);have f1:=(g i).strip;have f2:=(g i).flag
  by_cases g0:x=g i
  ·rw[dqt g0]at e2;have hV:=wv hi i2 (by rw[dqt g0]);rw[hV];simp (disch:=omega) only[s1,s2,k1,e1,e2,f1,f2,go_sem]
   repeat' first|exact wm|with_reducible apply aiA|exact clz|fail
  ·rw[dqf g0]at e2;simp (disch:=omega) only[s1,s2,k1,e1,e2,f1,f2,go_sem]
   repeat' first|with_reducible apply aiA|exact clz|fail
   refine hK _ _ (i+1) ⟨hi,λj hj=> ?_⟩ om (Wk.temps ?_)
   ·by_cases e:j=i
    ·subst e;exact dqf g0
    ·exact i2 j om
   ·exact tmq
 ·have k1:((i:Int)<n)=False:=xD;have hV:=cD (p:=λi=>decide (x=g i)) (n:=n) (λj hj=>i2 j om);rw[hV];simp (disch:=omega) only[s1,s2,k1,go_sem]
  repeat' first|exact wm|fail
theorem cC{P:Program}{f z:Nat}{m:Option Nat}(hf:qN P f 19 0 [RV.tmp 4] (cIF z m))(n:Nat)(g:Nat->w7)(e:Nat->AV)(q:Nat)(first cap:w7)(p:Nat->Bool)(h:w6)
  (hg: ∀i,i<n->(g i).length=z∧j0 (g i) 0 m∧cut (g i) 0 m=e i∧(e i).strip=e i∧(e i).flag=true) (hc: ∀i,i<n->ACalls P q (first++ [e i]++cap) h (.bool (p i)) h) (hn:n<=9223372036854775807):
  ACalls P f [.sl n g,.fn (.func q) first cap] h (.int .i64 (yM p n 0)) h:=by
 refine acO hf ?_;simp (disch:=omega) only[cIF,go_sem];refine qp (T:=λi:Nat=>zw 19 [(0,.sl n g),(1,.fn (.func q) first cap),(6,.sl n g),(7,.int .i64 n),(8,.int .i64 i)]) (H:=λ_=>h) (inv:=λi=>i<=n∧ ∀j,j<i->p j=false) (m:=λi=>n-i) 0 ⟨nzl _,λj hj=>by omega⟩ (Wk.temps ?_) ?_
 ·exact tmq
 rintro i ⟨i1,i2⟩ K hK
 by_cases hi:i<n
 ·have k1:((i:Int)<n)=True:=xv;obtain⟨e1,e2,e3,e4,e5⟩:=hg i hi;have e1:=eqt e1;have e2:=eqt e2;have c:=hc i hi;cases g0:p i with
  |true=>
   rw[g0]at c;have hV:=wv hi i2 g0;rw[hV];simp (disch:=omega) only[k1,e1,e2,e3,e4,e5,go_sem]
   repeat' first|(refine qy c ?_;simp (disch:=omega) only[go_sem])|exact wm|with_reducible apply aiA|exact clz|fail
  |false=>
   rw[g0]at c;simp (disch:=omega) only[k1,e1,e2,e3,e4,e5,go_sem]
   repeat' first|(refine qy c ?_;simp (disch:=omega) only[go_sem])|with_reducible apply aiA|exact clz|fail
   refine hK _ _ (i+1) ⟨hi,λj hj=> ?_⟩ om (Wk.temps ?_)
   ·by_cases e:j=i
    ·subst e;exact g0
    ·exact i2 j om
   ·exact tmq
 ·have k1:((i:Int)<n)=False:=xD;have hV:=cD (p:=p) (n:=n) (λj hj=>i2 j om);rw[hV];simp (disch:=omega) only[k1,go_sem]
  repeat' first|exact wm|fail
theorem A9{P:Program}{f g:Nat}(hf:qN P f 9 0 [RV.tmp 4] (cCT g)){p:Nat->Bool}{n:Nat}{a b:AV}{h:w6}(ha:a.strip=a∧a.flag=true)(hb:b.strip=b∧b.flag=true)(hc:ACalls P g [a,b] h (.int .i64 (yM p n 0)) h):
  ACalls P f [a,b] h (.bool (jx p n)) h:=by
 obtain⟨a1,a2⟩:=ha;obtain⟨b1,b2⟩:=hb;unfold jx;have e0:strips [a,b]= [a,b]:=by simp[strips,a1,b1]
 rw[<-e0]at hc;refine acO hf ?_;simp (disch:=omega) only[cCT,a1,a2,b1,b2,go_sem]
 repeat' first|(refine cA hc ?_ ?_;exact flk;simp (disch:=omega) only[go_sem])|exact wm|fail
theorem qbw{P:Program}{f:Nat}(hf:qN P f 26 0 [RV.tmp 4] cEQ)(n m:Nat)(g k:Nat->At)(h:w6)(hk: ∀i,i<n->i<m->(g i).k=(k i).k)(hn:n<=9223372036854775807)(hm:m<=9223372036854775807):
  ACalls P f [.sl n (λi=> [(g i).v]),.sl m (λi=> [(k i).v])] h (.bool (decide (n=m∧ ∀i,i<n->g i=k i))) h:=by
 by_cases hnm:n=m
 ·subst hnm;refine acO hf ?_;simp (disch:=omega) only[cEQ,go_sem];refine qp (T:=λi:Nat=>zw 26 [(0,.sl n (λi=> [(g i).v])),(1,.sl n (λi=> [(k i).v])),(12,.int .i64 n),(13,.int .i64 i)]) (H:=λ_=>h) (inv:=λi=>i<=n∧ ∀j,j<i->g j=k j) (m:=λi=>n-i) 0 ⟨nzl _,λj hj=>by omega⟩ (Wk.temps ?_) ?_
  ·exact tmq
  rintro i ⟨i1,i2⟩ K hK
  by_cases hi:i<n
  ·have k1:((i:Int)<n)=True:=xv;obtain⟨e1,e2⟩:=At.neq (hk i hi hi);have f1:=(g i).strip;have f2:=(g i).flag;have f3:=(k i).strip;have f4:=(k i).flag
   by_cases g0:g i=k i
   ·rw[dqt g0]at e2;simp (disch:=omega) only[k1,e1,e2,f1,f2,f3,f4,go_sem]
    repeat' first|with_reducible apply aiA|exact clz|fail
    refine hK _ _ (i+1) ⟨hi,λj hj=> ?_⟩ om (Wk.temps ?_)
    ·by_cases e:j=i
     ·subst e;exact g0
     ·exact i2 j om
    ·exact tmq
   ·rw[dqf g0]at e2;rw[dqf (λhc=>g0 (hc i hi))];simp (disch:=omega) only[k1,e1,e2,f1,f2,f3,f4,go_sem]
    repeat' first|exact wm|with_reducible apply aiA|exact clz|fail
  ·have k1:((i:Int)<n)=False:=xD;rw[dqt (λj hj=>i2 j om)];simp (disch:=omega) only[k1,go_sem]
   repeat' first|exact wm|fail
 ·have k1:((n:Int)=m)=False:=xD;rw[dqf (λhc=>hnm hc.1)];refine acO hf ?_;simp (disch:=omega) only[cEQ,k1,go_sem]
  repeat' first|exact wm|fail
end AF
end
section
open Go Go.Proofs AF
def ji:List Nat:= []
def rm:C:=
 (v6 [MC 2 (.bool false)] (wa [MV 3 0,O1 4 .slen 3,vV 5 .leq 4 16,MV 6 5,MG 7 6 true 0,P1 8 6 true (.call 100 true) 7,PF 9 6 8,MV 10 9,MG 11 10 true 0,P1 12 10 true (.call 189
 true) 11,MG 13 10 true 0,P1 14 10 true .slen 13,P2 15 10 true (.bin .eql) 12 14,PF 16 10 15,MV 2 16]))
theorem iQ:qN Tryz.prog 141 17 0 [RV.tmp 2] rm:=fi Tryz.f141 [] ji []
def u7:C:=
 (v6 [MC 2 (.bool false)] (wa [MV 3 0,BC 4 .neq 3 (.str []),MV 5 4,MG 6 5 true 0,P1 7 5 true .slen 6,PC 8 5 true (.bin .leq) 7 (i6 16),PF 9 5 8,MV 10 9,MG 11 10 true 0,P1 12 10
 true (.call 227 true) 11,MG 13 10 true 0,P1 14 10 true .slen 13,P2 15 10 true (.bin .eql) 12 14,PF 16 10 15,MV 2 16]))
theorem oO:qN Tryz.prog 169 17 0 [RV.tmp 2] u7:=fi Tryz.f169 [] ji []
def rl:C:=
 (v6 [MC 2 (.bool false)] ((v6 [MV 5 0,O1 6 .slen 5,vV 7 .lss 6 1,MV 8 7,vY 9 8 0,vW 10 8 .slen 9,vZ 11 8 (.bin .gtr) 10 (i6 64),PT 12 8 11,MV 13 12,vY 14 13 0,vW 15 13 (.call
 153 true) 14,vZ 16 13 (.bin .neq) 15 (i6 0),PT 17 13 16] (v7 17 (wa [MC 2 (.bool false)]))).seq ((v6 [MV 18 0,OC 19 .sidx 18 (i6 0),O1 20 (.call 154 true) 19,MV 3 20] (v6 [MV
 21 3,vV 22 .neq 21 1,MV 23 22,MG 24 23 true 3,PC 25 23 true (.bin .neq) 24 (i6 3),PF 26 23 25] (v7 26 (wa [MC 2 (.bool false)])))).seq ((v6 [vU 4 0] (C.block 0 ((v6 [MV 27 4,MV
 28 0,O1 29 .slen 28,BI 30 .lss 27 29] (v8 30 0)).seq ((C.block 1 (v6 [MV 33 0,MV 34 4,O2 35 .sidx 33 34,O1 36 (.call 154 true) 35,vV 37 .gtr 36 4] (v7 37 (wa [MC 2 (.bool
 false)])))).seq (we 31 4))).loop)).seq (wa [MC 2 (.bool true)])))))
theorem iP:qN Tryz.prog 100 38 0 [RV.tmp 2] rl:=fi Tryz.f100 [] ji []
def Is:C:=
 (v6 [vU 2 0] (v6 [vU 3 0] ((v6 [vU 4 0] (C.block 0 ((v6 [MV 6 4,MV 7 0,O1 8 .slen 7,BI 9 .lss 6 8] (v8 9 0)).seq ((C.block 1 (v6 [MV 12 0,MV 13 4,O2 14 .sidx 12 13,O1 15 (.call
 154 true) 14,MV 5 15] (v6 [MV 16 5,vV 17 .eql 16 1,MV 18 17,vY 19 18 5,vZ 20 18 (.bin .eql) 19 (i6 3),PT 21 18 20] (v7 21 (we 22 3))))).seq (we 10 4))).loop)).seq (wa [MV 24
 3,MV 2 24]))))
theorem M8:qN Tryz.prog 189 25 0 [RV.tmp 2] Is:=fi Tryz.f189 [] ji []
def Iz:C:=
 (v6 [vU 2 0] (v6 [vU 3 0] ((v6 [MV 6 0,O1 7 .slen 6,vU 8 0] (C.block 0 (v6 [BI 9 .lss 8 7] ((v8 9 0).seq ((C.block 1 (v6 [MV 10 8,MV 4 10] (v6 [MV 11 0,MV 12 4,O2 13 .sidx 11
 12,O1 14 (.call 185 true) 13,MV 5 14] (v6 [MV 15 5,vV 16 .eql 15 1,MV 17 16,vY 18 17 5,vZ 19 17 (.bin .eql) 18 (i6 3),PT 20 17 19] (v7 20 (we 21 3)))))).seq (wc [vV 23 .add 8
 1,MV 8 23])))).loop)).seq (wa [MV 24 3,MV 2 24]))))
theorem Ni:qN Tryz.prog 227 25 0 [RV.tmp 2] Iz:=fi Tryz.f227 [] ji []
def C0:C:=
 (v6 [vU 2 0] ((v6 [MV 6 0,O1 7 .slen 6,vV 8 .gtr 7 65536] (v7 8 (wa [vU 2 4]))).seq (v6 [MV 9 0,O1 10 (.call 205 true) 9,MV 3 10] ((v6 [vU 4 0] (C.block 0 ((v6 [MV 11 4,MV 12
 0,O1 13 .slen 12,BI 14 .lss 11 13] (v8 14 0)).seq ((C.block 1 (v6 [MV 17 0,MV 18 4,O2 19 .sidx 17 18,O1 20 (.call 154 true) 19,MV 5 20] (v6 [MV 21 5,vV 22 .eql 21 0,MV 23 22,vY
 24 23 5,vZ 25 23 (.bin .eql) 24 (i6 2),vY 26 23 25,MG 27 26 true 3,MG 28 26 true 4,P2 29 26 true (.idxA 1) 27 28,P1 30 26 true (.load none) 29,P1 31 26 true (.un UnOp.not)
 30,QF 32 23 false 26 31,PT 33 23 32] (v7 33 (wa [vU 2 11]))))).seq (we 15 4))).loop)).seq (wa [vU 2 0])))))
theorem Be:qN Tryz.prog 153 34 0 [RV.tmp 2] C0:=fi Tryz.f153 [] ji []
def Ic:C:=
 (v6 [vU 2 0] ((C.block 0 (v6 [MV 4 0,BC 5 .geq 4 (.int .u8 97),MV 6 5,MG 7 6 true 0,PC 8 6 true (.bin .leq) 7 (.int .u8 122),PF 9 6 8,MV 10 9,vY 11 10 0,vZ 12 10 (.bin .geq) 11
 (.int .u8 65),vY 13 10 12,MG 14 13 true 0,PC 15 13 true (.bin .leq) 14 (.int .u8 90),QF 16 10 false 13 15,PT 17 10 16,MV 3 17] (C.cond (.t 3) (wa [vU 2 1]) (v6 [MV 19 0,BC 20
 .eql 19 (.int .u8 94),MV 21 20,vY 22 21 0,vZ 23 21 (.bin .eql) 22 (.int .u8 126),PT 24 21 23,MV 25 24,vY 26 25 0,vZ 27 25 (.bin .eql) 26 (.int .u8 37),PT 28 25 27,MV 18 28]
 (C.cond (.t 18) (wa [vU 2 2]) (v6 [MV 30 0,BC 31 .geq 30 (.int .u8 48),MV 32 31,MG 33 32 true 0,PC 34 32 true (.bin .leq) 33 (.int .u8 57),PF 35 32 34,MV 29 35] (C.cond (.t 29)
 (wa [vU 2 3]) (v6 [MV 37 0,BC 38 .eql 37 (.int .u8 39),MV 36 38] (C.cond (.t 36) (wa [vU 2 4]) (v6 [MV 40 0,BC 41 .eql 40 (.int .u8 46),MV 42 41,vY 43 42 0,vZ 44 42 (.bin .eql)
 43 (.int .u8 44),PT 45 42 44,MV 46 45,vY 47 46 0,vZ 48 46 (.bin .eql) 47 (.int .u8 59),PT 49 46 48,MV 50 49,vY 51 50 0,vZ 52 50 (.bin .eql) 51 (.int .u8 58),PT 53 50 52,MV 54
 53,vY 55 54 0,vZ 56 54 (.bin .eql) 55 (.int .u8 33),PT 57 54 56,MV 58 57,vY 59 58 0,vZ 60 58 (.bin .eql) 59 (.int .u8 63),PT 61 58 60,MV 62 61,vY 63 62 0,vZ 64 62 (.bin .eql)
 63 (.int .u8 40),PT 65 62 64,MV 66 65,vY 67 66 0,vZ 68 66 (.bin .eql) 67 (.int .u8 41),PT 69 66 68,MV 70 69,vY 71 70 0,vZ 72 70 (.bin .eql) 71 (.int .u8 45),PT 73 70 72,MV 39
 73] (C.cond (.t 39) (wa [vU 2 5]) (v6 [MV 75 0,BC 76 .eql 75 (.int .u8 32),MV 74 76] (v7 74 (wa [vU 2 6])))))))))))))).seq (wa [vU 2 0])))
theorem MM:qN Tryz.prog 154 77 0 [RV.tmp 2] Ic:=fi Tryz.f154 [] ji []
def Io:C:=
 (v6 [vU 2 0] ((C.block 0 (v6 [MV 4 0,BC 5 .geq 4 (.int .u8 97),MV 6 5,MG 7 6 true 0,PC 8 6 true (.bin .leq) 7 (.int .u8 122),PF 9 6 8,MV 10 9,vY 11 10 0,vZ 12 10 (.bin .geq) 11
 (.int .u8 65),vY 13 10 12,MG 14 13 true 0,PC 15 13 true (.bin .leq) 14 (.int .u8 90),QF 16 10 false 13 15,PT 17 10 16,MV 3 17] (C.cond (.t 3) (wa [vU 2 1]) (v6 [MV 19 0,BC 20
 .eql 19 (.int .u8 94),MV 21 20,vY 22 21 0,vZ 23 21 (.bin .eql) 22 (.int .u8 126),PT 24 21 23,MV 25 24,vY 26 25 0,vZ 27 25 (.bin .eql) 26 (.int .u8 37),PT 28 25 27,MV 18 28]
 (C.cond (.t 18) (wa [vU 2 2]) (v6 [MV 30 0,BC 31 .geq 30 (.int .u8 48),MV 32 31,MG 33 32 true 0,PC 34 32 true (.bin .leq) 33 (.int .u8 57),PF 35 32 34,MV 29 35] (C.cond (.t 29)
 (wa [vU 2 3]) (v6 [MV 37 0,BC 38 .eql 37 (.int .u8 39),MV 36 38] (C.cond (.t 36) (wa [vU 2 4]) (v6 [MV 40 0,BC 41 .eql 40 (.int .u8 32),MV 39 41] (C.cond (.t 39) (wa [vU 2 6])
 (v6 [MV 43 0,BC 44 .neq 43 (.int .u8 0),MV 45 44,MG 46 45 true 0,PN 47 45 true (.call 248 true) [.c (.str [46,44,59,58,33,63,40,41,45]),.t 46],PC 48 45 true (.bin .geq) 47 (i6
 0),PF 49 45 48,MV 42 49] (v7 42 (wa [vU 2 5])))))))))))))).seq (wa [vU 2 0])))
theorem M4:qN Tryz.prog 185 50 0 [RV.tmp 2] Io:=fi Tryz.f185 [] ji []
def Iy:C:=
 (v6 [ON 2 (.nilo 0 1 4) []] (v6 [⟨some 5,none,.bslc 1 1 0 4 [.bool false] [],[]⟩,MV 3 5] ((v6 [vU 4 0] (C.block 0 ((v6 [MV 6 4,MV 7 0,O1 8 .slen 7,BI 9 .lss 6 8] (v8 9 0)).seq
 ((C.block 1 (wc [MV 12 3,MV 13 0,MV 14 4,O2 15 .sidx 13 14,O1 16 (.call 154 true) 15,vV 17 .eql 16 2,MV 18 17,MG 19 18 true 4,PC 20 18 true (.bin .gtr) 19 (i6 0),PF 21 18 20,MV
 22 21,MG 23 22 true 0,MG 24 22 true 4,PC 25 22 true (.bin .sub) 24 (i6 1),P2 26 22 true .sidx 23 25,P1 27 22 true (.call 154 true) 26,PC 28 22 true (.bin .eql) 27 (i6 1),MG 29
 22 true 28,vY 30 29 3,vY 31 29 4,vZ 32 29 (.bin .sub) 31 (i6 1),vX 33 29 (.idxA 1) 30 32,wi 34 29 33,QT 35 22 true 29 34,PF 36 22 35,⟨some 37,none,.bslc 2 1 1 4 [.bool false]
 [(0,1)],[.t 36]⟩,O2 38 (.app 3 1 4 1) 12 37,MV 3 38])).seq (we 10 4))).loop)).seq (wa [MV 39 3,MV 2 39]))))
theorem Nc:qN Tryz.prog 205 40 4 [RV.tmp 2] Iy:=fi Tryz.f205 [2,5,37,38] ji []
def IL:C:=
 (v6 [vU 4 0] (wa [MV 5 0,MV 6 1,O2 7 (.call 210 true) 5 6,MV 4 7]))
theorem Nz:qN Tryz.prog 248 8 0 [RV.tmp 4] IL:=fi Tryz.f248 [] ji []
def u5:C:=
 (v6 [MC 2 (.bool false)] ((v6 [MV 4 0,BC 5 .eql 4 (.str []),MV 6 5,vY 7 6 0,vW 8 6 .slen 7,vZ 9 6 (.bin .gtr) 8 (i6 64),PT 10 6 9,MV 11 10,vY 12 11 0,vW 13 11 (.call 181 true)
 12,vZ 14 11 (.bin .neq) 13 (i6 0),PT 15 11 14] (v7 15 (wa [MC 2 (.bool false)]))).seq ((v6 [MV 16 0,OC 17 .sidx 16 (i6 0),O1 18 (.call 185 true) 17,MV 3 18] (v6 [MV 19 3,vV 20
 .neq 19 1,MV 21 20,MG 22 21 true 3,PC 23 21 true (.bin .neq) 22 (i6 3),PF 24 21 23] (v7 24 (wa [MC 2 (.bool false)])))).seq (wa [MV 25 0,O1 26 .s2b 25,OC 27 (.call 186 true) 26
 (.fn (Fn.func 187) [] []),O1 28 (.un UnOp.not) 27,MV 2 28]))))
theorem oM:qN Tryz.prog 134 29 0 [RV.tmp 2] u5:=fi Tryz.f134 [] ji []
def C3:C:=
 (v6 [⟨some 2,none,.alloc 0 33 [i6 0],[]⟩] ((v6 [MV 6 0,O1 7 .slen 6,vV 8 .gtr 7 65536] (v7 8 (wa [⟨none,none,.store 1,[.t 2,.c (i6 4)]⟩]))).seq ((v6 [MV 9 0,O1 10 (.call 239
 true) 9] (C.block 0 (C.range (.t 10) [11,12] (wc [MV 4 12]) (C.block 1 (v6 [MV 13 4,OC 14 .sidx 13 (i6 0),O1 15 (.call 185 true) 14,MV 5 15] (v6 [MV 16 5,vV 17 .eql 16 0,MV 18
 17,vY 19 18 5,vZ 20 18 (.bin .eql) 19 (i6 2),PT 21 18 20] (v7 21 (wa [⟨none,none,.store 1,[.t 2,.c (i6 11)]⟩])))))))).seq (wa [⟨none,none,.store 1,[.t 2,.c (i6 0)]⟩]))))
theorem Bh:qN Tryz.prog 181 22 1 [RV.cell 2 none] C3:=fi Tryz.f181 [2] ji []
def Ip:C:=
 (v6 [MC 4 (.bool false)] (wa [MV 5 0,MV 6 1,O2 7 (.call 249 true) 5 6,vV 8 .geq 7 0,MV 4 8]))
theorem M5:qN Tryz.prog 186 9 0 [RV.tmp 4] Ip:=fi Tryz.f186 [] ji []
def Iq:C:=
 (v6 [MC 2 (.bool false)] (v6 [MV 4 0,O1 5 (.call 185 true) 4,MV 3 5] (wa [MV 6 3,vV 7 .eql 6 5,MV 8 7,vY 9 8 3,vZ 10 8 (.bin .eql) 9 (i6 6),PT 11 8 10,MV 2 11])))
theorem M6:qN Tryz.prog 187 12 0 [RV.tmp 2] Iq:=fi Tryz.f187 [] ji []
def IE:C:=
 (v6 [O1 1 (.box 0 9) 0,MC 2 .nilfn] (wa [O1 3 (.mkfn (Fn.func 273) 0) 1,MV 2 3]))
theorem Nq:qN Tryz.prog 239 4 1 [RV.tmp 2] IE:=fi Tryz.f239 [1] ji []
def IM:C:=
 (v6 [vU 4 0] ((v6 [MV 6 0,O1 7 .len 6,vU 8 0] (C.block 0 (v6 [BI 9 .lss 8 7] ((v8 9 0).seq ((C.block 1 (v6 [MV 10 8,MV 5 10] (v6 [MV 11 1,MV 12 0,MV 13 5,O2 14 (.idxA 1) 12
 13,LD 15 14,O2 16 .callv 11 15] (v7 16 (wa [MV 17 5,MV 4 17]))))).seq (wc [vV 18 .add 8 1,MV 8 18])))).loop)).seq (wa [MC 4 (i6 (-1))])))
theorem NA:qN Tryz.prog 249 19 0 [RV.tmp 4] IM:=fi Tryz.f249 [] ji []
def Dh:C:=
 (v6 [MC 4 (.bool false)] (wa [MV 5 0,O1 6 .slen 5,MV 7 1,O1 8 .slen 7,BI 9 .geq 6 8,MV 10 9,MG 11 10 true 0,MG 12 10 true 0,P1 13 10 true .slen 12,MG 14 10 true 1,P1 15 10 true
 .slen 14,P2 16 10 true (.bin .sub) 13 15,P2 17 10 true (.sslc true false) 11 16,MG 18 10 true 1,P2 19 10 true (.bin .eql) 17 18,PF 20 10 19,MV 4 20]))
theorem Bw:qN Tryz.prog 298 21 0 [RV.tmp 4] Dh:=fi Tryz.f298 [] ji []
def IN:C:=
 (v6 [vU 3 0] (v6 [vU 4 1] (C.block 0 ((v6 [MV 5 4,LD 6 1,O1 7 .slen 6,BI 8 .leq 5 7] (v8 8 0)).seq ((C.block 1 ((v6 [MV 11 4,LD 12 1,O1 13 .slen 12,BI 14 .lss 11 13,MV 15 14,P1
 16 15 true (.load none) 1,MG 17 15 true 4,P2 18 15 true .sidx 16 17,P1 19 15 true (.call 185 true) 18,PC 20 15 true (.bin .eql) 19 (i6 2),PF 21 15 20,MV 22 21,P1 23 22 true
 (.load none) 1,MG 24 22 true 3,MG 25 22 true 4,PN 26 22 true (.call 274 true) [.t 23,.t 24,.t 25],PF 27 22 26] (v7 27 (C.exit 1))).seq ((v6 [MV 28 0,MV 29 3,LD 30 1,MV 31 3,MV
 32 4,ON 33 (.sslc true true) [.t 30,.t 31,.t 32],ON 34 .callv [.t 28,.t 29,.t 33],O1 35 (.un UnOp.not) 34] (v7 35 C.ret)).seq (wc [MV 36 4,MV 3 36])))).seq (we 9 4))).loop)))
theorem NC:qN Tryz.prog 273 37 0 [] IN:=fi Tryz.f273 [] ji []
def IP:C:=
 (v6 [MC 6 (.bool false)] (wa [MV 7 0,MV 8 1,O2 9 .sidx 7 8,O1 10 (.call 185 true) 9,vV 11 .eql 10 1,MV 12 11,MG 13 12 true 2,MG 14 12 true 1,P2 15 12 true (.bin .gtr) 13 14,PF
 16 12 15,MV 6 16]))
theorem ND:qN Tryz.prog 274 17 0 [RV.tmp 6] IP:=fi Tryz.f274 [] ji []
end
section
namespace HY
def li(n:Int):Int:=
 if (97<=n∧n<=122)∨(65<=n∧n<=90) then 1
 else if n=94∨n=126∨n=37 then 2
 else if 48<=n∧n<=57 then 3
 else if n=39 then 4
 else if n=32 then 6
 else if n=46∨n=44∨n=59∨n=58∨n=33∨n=63∨n=40∨n=41∨n=45 then 5
 else 0
def kind(b:UInt8):Int:=li b.toNat
def ch(s:List UInt8)(i:Nat):UInt8:=s.getD i 0
theorem kn(s:List UInt8)(i:Nat):(s[i]?).getD 0=ch s i:=by rw[ch,gdqA]
def wU(frm:Nat)(cur:List UInt8):List UInt8->List (Nat×List UInt8)
 | []=> [(frm,cur)]
 |c::r=>if kind c=2∧kind (ch cur 0)=1 then wU frm (cur++ [c]) r else (frm,cur)::wU (frm+cur.length) [c] r
def z8:List UInt8->List (Nat×List UInt8)
 | []=> []
 |c::r=>wU 0 [c] r
def mj(s:List UInt8):List (List UInt8):=(z8 s).map (·.2)
theorem WB(frm:Nat)(cur r:List UInt8):wU frm cur r≠ []:=by
 induction r generalizing frm cur with
 |nil=>simp[wU]
 |cons c r ih=>simp only[wU];split;exact ih _ _;simp
theorem Qz{frm:Nat}{cur r:List UInt8}(hc:cur≠ []): ∀x∈wU frm cur r,x.2≠ []:=by
 induction r generalizing frm cur with
 |nil=>intro x hx;simp[wU]at hx;subst hx;exact hc
 |cons c r ih=>
  intro x hx;simp only[wU]at hx;split at hx
  ·exact ih (by simp) x hx
  ·rcases List.mem_cons.1 hx with rfl|hx
   ·exact hc
   ·exact ih (by simp) x hx
theorem Dx{s:List UInt8}: ∀x∈mj s,x≠ []:=by
 cases s with
 |nil=>intro x hx;simp[mj,z8]at hx
 |cons c r=>
  intro x hx;simp only[mj,z8,List.mem_map]at hx;obtain⟨y,hy,rfl⟩:=hx;exact Qz (by simp) y hy
def jd(s:List UInt8):Nat->Bool
 |0=>false
 |i+1=>decide (kind (ch s (i+1))=2)&&(decide (kind (ch s i)=1)||jd s i)
def aZ(s:List UInt8):List Bool:=(List.range s.length).map (jd s)
theorem eX{s:List UInt8}{i:Nat}(h:i<s.length):(aZ s).getD i false=jd s i:=by simp[aZ,gdqA,h]
def aT(s:List UInt8)(f i:Nat):Prop:=f<i∧(decide (kind (ch s (i-1))=1)||jd s (i-1))=decide (kind (ch s f)=1)
theorem aU{s:List UInt8}{f i:Nat}(h:aT s f i):jd s i=(decide (kind (ch s i)=2)&&decide (kind (ch s f)=1)):=by
 obtain⟨h1,h2⟩:=h;cases i with
 |zero=>omega
 |succ i=>simp only[jd];rw[<-h2];rfl
theorem iY(s:List UInt8):aT s 0 1:=⟨om,by simp[jd]⟩
theorem Zu{s:List UInt8}{f i:Nat}(h:aT s f i)(hr:jd s i=true):aT s f (i+1):=by
 have h3:=aU h;rw[hr]at h3;refine⟨by have:=h.1;omega,?_⟩;rw[Nat.add_sub_cancel,hr,Bool.or_true];symm at h3;simp only[Bool.and_eq_true]at h3;exact h3.2.symm
theorem rU{s:List UInt8}{f i:Nat}(h:aT s f i)(hr:jd s i=false):aT s i (i+1):=
 ⟨om,by rw[Nat.add_sub_cancel,hr,Bool.or_false]⟩
def jf(c:List UInt8):Bool:=decide (kind (ch c 0)=0)||decide (kind (ch c 0)=2)
def jc(s:List UInt8):Int:=if 65536<s.length then 4 else if (mj s).any jf then 11 else 0
def kU(s:List UInt8):Bool:=
 decide (0<s.length)&&decide (s.length<=64)&&decide (jc s=0)&&(decide (kind (ch s 0)=1)||decide (kind (ch s 0)=3))&& !(s.any λc=>decide (kind c=5)||decide (kind c=6))
end HY
end
section
namespace HY
structure Pat where
 letters:List UInt8
 levels:List Int
 deriving DecidableEq, Inhabited
def BK(s p:List UInt8):Bool:=decide (s.drop (s.length-p.length)=p)
def yg(s:List UInt8)(i:Nat):Bool:=decide (kind (ch s i)=0)||(decide (kind (ch s i)=2)&& !jd s i)
end HY
end
section
open Go Go.Proofs AF HY
namespace HY
def strs(l:List (List UInt8)):AV:= .sl l.length λi=> [.str (l.getD i [])]
theorem BS {P : Program} {f : FuncId} {fn : Func} (h : P.funcs[f]? = some fn) (h1 : fn.body.isSome = true) (h2 : (fn.name != "runtime.NumGoroutine") = true) : okF P f = true := by
 unfold okF;rw[h];simp[h1,h2]
theorem qgg(s:List UInt8)(c:Int)(h:w6):ACalls Tryz.prog 210 [.str s,.int .u8 c] h (.int .i64 (Go.Lib.indexByte s c.toNat.toUInt8)) h:=by
 refine⟨BS Tryz.func210 (by kernel_rfl) (by kernel_rfl),λw σ xs H hv=> ?_⟩;obtain⟨x,y,rfl,hx,hy⟩:=hv.two;rw[kl hx,zY hy];refine (callsIn_wide.2 (Xy ⟨s.toArray⟩ c w)).mono ?_;rintro e w' ⟨rfl,rfl⟩;exact⟨_,σ,rfl,H,.imm .int,Ext.refl _ _⟩
theorem qge(s:List UInt8)(c:Int)(h:w6):ACalls Tryz.prog 248 [.str s,.int .u8 c] h (.int .i64 (Go.Lib.indexByte s c.toNat.toUInt8)) h:=by
 refine qJ Nz (by simp) ?_;simp only[lco,lnl,Nat.reduceAdd,Nat.reduceSub,List.replicate,lca,lna,lan];simp (disch:=omega) only[IL,go_sem,qt,dvP,mdP]
 repeat' first|(refine qO (qgg s c _) ?_ ?_;exact flk;simp (disch:=omega) only[go_sem,qt,dvP,mdP])|exact wm|fail
theorem Jr: ∀n:Fin 256,(0<=Go.Lib.indexByte [46,44,59,58,33,63,40,41,45] (UInt8.ofNat n.val))↔(n.val=46∨n.val=44∨n.val=59∨n.val=58∨n.val=33∨n.val=63∨n.val=40∨n.val=41∨n.val=45):=by decide+kernel
theorem qeP(n:Int)(h:w6)(n0:0<=n)(n1:n<=255):ACalls Tryz.prog 185 [.int .u8 n] h (.int .i64 (li n)) h:=by
 obtain⟨m,rfl⟩: ∃m:Nat,n=m:=⟨n.toNat,om⟩
 have hp:=Jr ⟨m,om⟩;simp only at hp;obtain⟨q,hq⟩:=wD (Go.Lib.indexByte [46,44,59,58,33,63,40,41,45] (UInt8.ofNat m))
 rw[<-hq]at hp;have hc: ∀h,ACalls Tryz.prog 248 [.str [46,44,59,58,33,63,40,41,45],.int .u8 (m:Int)] h (.int .i64 q) h:=λh=>by rw[hq];exact qge _ _ h
 refine qJ M4 (by simp) ?_;simp only[lco,lnl,Nat.reduceAdd,Nat.reduceSub,List.replicate,lca,lna,lan];simp (disch:=omega) only[Io,go_sem,qt,dvP,mdP]
 repeat' first|(refine qU (λe=>⟨?_,hc _⟩) ?_;exact flk;simp (disch:=omega) only[go_sem,qt,dvP,mdP])|(apply qh;exact rvk;simp only[go_sem];apply qe)|(with_reducible first|intro _|apply aiA)
 all_goals first
  |omega
  |(unfold li;(repeat' split)<;>omega)
theorem qeR(n:Int)(h:w6):ACalls Tryz.prog 154 [.int .u8 n] h (.int .i64 (li n)) h:=by
 refine qJ MM (by simp) ?_;simp only[lco,lnl,Nat.reduceAdd,Nat.reduceSub,List.replicate,lca,lna,lan];simp (disch:=omega) only[Ic,go_sem,qt,dvP,mdP]
 repeat' first|(apply qh;exact rvk;simp only[go_sem];apply qe)|(with_reducible first|intro _|apply aiA)
 all_goals first
  |omega
  |grind [li]
end HY
end
section
open Go Go.Proofs AF HY
namespace HY
theorem _root_.AF.LowI.ret{h hh:w6}{ts:w7}{L:LInfo}(s:LS)(hl:LowI h hh)(hts: ∀c∈ts,ze (h.length+1) c=true):
  (hh++ [AObj.lp s ts L]).length=(h++ [AObj.lp .ready ts L]).length∧ ∀o∈hh++ [AObj.lp s ts L],o∈h++ [AObj.lp .ready ts L]∨lowO (h++ [AObj.lp .ready ts L]).length o:=by
 refine⟨by simp[hl.1],λo ho=> ?_⟩;rw[lap,List.length_singleton];rcases List.mem_append.1 ho with ho|ho
 ·rcases hl.2 o ho with h1|h1
  ·exact .inl (List.mem_append_left _ h1)
  ·exact .inr h1.2
 ·rw[List.mem_singleton]at ho;subst ho;exact .inr hts
theorem pT(b:UInt8):0<=((b.toNat:Nat):Int)∧((b.toNat:Nat):Int)<=255:=by
 have:=b.toNat_lt
 omega
theorem bz(b:UInt8)(h:w6):ACalls Tryz.prog 185 [.int .u8 (b.toNat:Int)] h (.int .i64 (kind b)) h:=qeP _ h (pT b).1 (pT b).2
theorem de(b:UInt8)(h:w6):ACalls Tryz.prog 154 [.int .u8 (b.toNat:Int)] h (.int .i64 (kind b)) h:=qeR _ h
theorem cn{s:List UInt8}{f i:Nat}(hf:f<i)(hi:i<s.length):wU f ((s.drop f).take (i-f)) (s.drop i)=if kind (ch s i)=2∧kind (ch s f)=1 then wU f ((s.drop f).take (i+1-f)) (s.drop (i+1)) else (f,(s.drop f).take (i-f))::wU i ((s.drop i).take (i+1-i)) (s.drop (i+1)):=by
 have e1:s.drop i=ch s i::s.drop (i+1):=by rw[List.drop_eq_getElem_cons hi];simp[ch,hi]
 have e2:ch ((s.drop f).take (i-f)) 0=ch s f:=by simp[ch,gdqA,List.getElem?_take,show 0<i-f by omega]
 have e3:(s.drop f).take (i+1-f)=(s.drop f).take (i-f)++ [ch s i]:=by
  rw[show i+1-f=(i-f)+1 by omega,List.take_add_one,List.getElem?_drop,show f+(i-f)=i by omega];simp[ch,gdqA,hi]
 have e4:f+((s.drop f).take (i-f)).length=i:=by rw[List.length_take,List.length_drop];omega
 have e5:(s.drop i).take (i+1-i)= [ch s i]:=by rw[e1,show i+1-i=1 by omega];rfl
 rw[e5,e1];simp only[wU,e2,e4,e3]
end HY
end
section
open Go Go.Proofs AF HY
namespace HY
def b8(l:List Bool):AV:= .sl l.length λi=> [.bool (l.getD i false)]
theorem B6{cs:w7}{n m k:Nat}{f:Nat->w7}{fz:Nat->Bool}{h:w6}(e:cs.length=m)(ek:k=m)(hf: ∀i c,cs[i]? =some c->f i= [c])(hr: ∀c∈cs,rei fz h (n+1) c=c):VLe (.sl m λi=>((List.drop i cs).take 1).map (rei fz h (n+1))) (.sl k f):=by
 subst e ek;refine Hr rfl (λi hi=> ?_);rw[List.drop_eq_getElem_cons hi,hf i cs[i] (zG hi)];show [rei fz h (n+1) cs[i]]=_;rw[hr cs[i] (List.getElem_mem hi)]
def kc(l:List (List UInt8)):w7:=l.map .str
theorem wF(l:List (List UInt8)):(kc l).length=l.length:=by simp[kc]
theorem aL{l:List (List UInt8)}{n m:Nat}{fz:Nat->Bool}{h:w6}(e:l.length=m):VLe (.sl m λi=>((List.drop i (kc l)).take 1).map (rei fz h (n+1))) (strs l):=by
 subst e;refine B6 (wF l) rfl (λi c hc=> ?_) (λc hc=> ?_)
 ·unfold kc at hc;rw[List.getElem?_map,Option.map_eq_some_iff]at hc;obtain⟨x,hx,rfl⟩:=hc;simp[gdqA,hx]
 ·unfold kc at hc;rw[List.mem_map]at hc;obtain⟨x,_,rfl⟩:=hc;rfl
def wO(s:List UInt8)(i:Nat):w7:=(List.range i).map λj=>AV.bool (jd s j)
theorem cZ(s:List UInt8)(i:Nat):wO s (i+1)=wO s i++ [.bool (jd s i)]:=by simp[wO,List.range_succ]
theorem aF(s:List UInt8)(i:Nat):(wO s i).length=i:=by simp[wO]
theorem t95(s:List UInt8)(h:w6)(hs:s.length<=1000000000):ACalls Tryz.prog 205 [.str s] h (b8 (aZ s)) h:=by
 refine qJ Nc (by simp) ?_;simp only[lco,lnl,Nat.reduceAdd,Nat.reduceSub,List.replicate,lca,lna,lan];simp (disch:=omega) only[Iy,zU,go_sem,qt,dvP,mdP]
 all_goals first
  |omega
  |(simp;done)
  |skip
 refine qp (T:=λi:Nat×Nat×AObj=>zw 40 [(0,.str s),(3,.osl (h.length+1) i.2.1 1 0 i.1),(4,.int .i64 i.1)]) (H:=λi=>h++ [.emp 1,.mem i.2.1 4 (wO s i.1),i.2.2,.emp 0])
  (inv:=λi=>i.1<=s.length∧qK [i.2.2] 0=true) (m:=λi=>s.length-i.1) (0,1,.emp 0) ⟨by simp only;omega,rfl⟩ (Wk.temps ?_) ?_
 ·(simp only[zw,List.foldl,go_sem,qg,qc,qa,qf];try exact wr)
 ·rintro⟨i,v,O⟩ ⟨i1,i2⟩ K hK;simp only at i1 i2 hK;have i2': ∀m,qK (O::m) 0=true:=λ_=>i2
  have eL:=aF s i;have eT:List.take i (wO s i)=wO s i:=ltl om
  by_cases hi:i<s.length
  ·cases i with
   |zero=>
    have hz:(((0:Nat):Int)<(s.length:Int))=True:=xv;have hz0:((0:Nat):Int)=0:=rfl;have hlt:((0:Int)<0)=False:=xD;have hc0:wO s 0= []:=rfl;have hz1:((0:Int)<(s.length:Int))=True:=xv;have hR:jd s 0=false:=rfl
    by_cases hk0:kind (ch s 0)=2
    all_goals
     simp (disch:=omega) only[zw,List.foldl,kn,i2',zU,hz0,hlt,hc0,hz1,hk0,go_sem,qt,dvP,mdP]
     repeat' first|(refine qj ((.int .i64 0)) ?_;simp (disch:=omega) only[kn,i2',zU,hz0,hlt,hc0,hk0,go_sem,qt,dvP,mdP])|(refine qO (de _ _) ?_ ?_;exact flk;simp (disch:=omega) only[kn,i2',zU,hz0,hlt,hc0,hk0,go_sem,qt,dvP,mdP])|(with_reducible first|intro _|apply aiA)|exact clz|fail
     refine hK _ _ (0+1,v+1,.mem (qn (some O)+1) 4 [.bool (jd s 0)]) ⟨by simp only;omega,rfl⟩ (by simp only;omega) ?_;rw[cZ];simp only[hR,hc0,lna];refine Wk.temps ?_
     (simp only[zw,List.foldl,go_sem,qg,qc,qa,qf];try exact wr)
   |succ i=>
    have hx:(((i+1:Nat):Int)-1).toNat=i:=by omega
    have hg:(wO s (i+1))[i]? =some (.bool (jd s i)):=by simp[wO]
    have hp:(0<((i+1:Nat):Int))=True:=xv;simp (disch:=omega) only[zw,List.foldl,kn,i2',eL,eT,zU,hx,hg,hp,go_sem,qt,dvP,mdP]
    repeat' first|(refine qO (de _ _) ?_ ?_;exact flk;simp (disch:=omega) only[kn,i2',eL,eT,zU,hx,hg,hp,go_sem,qt,dvP,mdP])|(refine qU (λe=>⟨?_,de _ _⟩) ?_;exact flk;simp (disch:=omega) only[kn,i2',eL,eT,zU,hx,hg,hp,go_sem,qt,dvP,mdP])|(apply qb;exact rvk;simp only[go_sem])|(with_reducible first|intro _|apply aiA)
    all_goals first
     |omega
     |(simp;done)
     |skip
    refine hK _ _ (i+1+1,v+1,.mem (qn (some O)+1) 4 [.bool (jd s (i+1))]) ⟨by simp only;omega,rfl⟩ (by simp only;omega) ?_;rw[cZ s (i+1)];simp only[jd];refine Wk.temps ?_
    (simp only[zw,List.foldl,go_sem,qg,qc,qa,qf];try exact wr)
  ·have e:i=s.length:=by omega
   subst e;simp (disch:=omega) only[zw,List.foldl,eL,go_sem,qt,dvP,mdP]
   repeat' first|(apply qb;exact rvk;simp only[go_sem])|(with_reducible first|intro _|apply aiA)
   all_goals first
    |omega
    |skip
   have hrl:(aZ s).length=s.length:=by simp[aZ]
   unfold b8;rw[ipo om];refine B6 (aF s _) hrl (λi c hc=> ?_) (λc hc=> ?_)
   ·have hi:=(lgs.1 hc).1;rw[aF]at hi;rw[eX hi];simp[wO,hi]at hc;rw[hc]
   ·simp[wO]at hc;obtain⟨x,_,rfl⟩:=hc;rfl
end HY
end
section
open Go Go.Proofs AF HY
namespace HY
theorem dz(s:List UInt8){f i:Nat}(h:f<=i)(hi:i<s.length):(s.drop f).take (i+1-f)=(s.drop f).take (i-f)++ [ch s i]:=by
 rw[show i+1-f=(i-f)+1 by omega,List.take_add_one,List.getElem?_drop,show f+(i-f)=i by omega];simp[ch,gdqA,hi]
theorem BU(s:List UInt8){i:Nat}(hi:i<s.length):(s.drop i).take (i+1-i)= [ch s i]:=by
 rw[dz s (nlr _) hi,Nat.sub_self];rfl
def done(s:List UInt8)(D:List (List UInt8))(f i:Nat):Prop:=aT s f i∧i<=s.length∧mj s=D++(wU f ((s.drop f).take (i-f)) (s.drop i)).map (·.2)
theorem rE{s:List UInt8}(h:0<s.length):done s [] 0 1:=by
 refine⟨iY s,h,?_⟩;cases s with
 |nil=>simp at h
 |cons c r=>simp[mj,z8]
end HY
end
section
open Go Go.Proofs AF HY
namespace HY
theorem Qy{s:List UInt8}: ∀(k:Nat) {f i:Nat},s.length-i=k->aT s f i->i<=s.length->jf ((s.drop f).take (i-f))=jf [ch s f]->
  ((wU f ((s.drop f).take (i-f)) (s.drop i)).map (·.2)).any jf=(jf [ch s f]||(List.range' i (s.length-i)).any (yg s)):=by
 intro k
 induction k with
 |zero=>
  intro f i hk hc hi hb;have e:i=s.length:=by omega
  subst e;rw[List.drop_length,Nat.sub_self];simp[wU,hb]
 |succ k ih=>
  intro f i hk hc hi hb;have hi':i<s.length:=by omega
  rw[cn hc.1 hi'];rw[show s.length-i=(s.length-(i+1))+1 by omega,List.range'_succ,List.any_cons];have hr:=aU hc
  by_cases hg:kind (ch s i)=2∧kind (ch s f)=1
  ·rw[ipo hg];have hrt:jd s i=true:=by rw[hr];simp[hg]
   have hb2:jf ((s.drop f).take (i+1-f))=jf [ch s f]:=by
    rw[<-hb];unfold jf;have e:ch ((s.drop f).take (i+1-f)) 0=ch ((s.drop f).take (i-f)) 0:=by
     have:=hc.1
     simp[ch,gdqA,List.getElem?_take,show 0<i-f by omega,show 0<i+1-f by omega]
    rw[e]
   rw[ih om (Zu hc hrt) hi' hb2]
   have:yg s i=false:=by unfold yg;rw[hrt,hg.1];rfl
   rw[this,Bool.false_or]
  ·rw[ine hg];have hrf:jd s i=false:=by
    rw[hr];cases h2:decide (kind (ch s i)=2)<;>cases h3:decide (kind (ch s f)=1)<;>simp_all
   simp only[List.map_cons,List.any_cons,hb];have h1:(s.drop i).take (i+1-i)= [ch s i]:=BU s hi';rw[ih om (rU hc hrf) hi' (by rw[h1])]
   have:yg s i=jf [ch s i]:=by unfold yg jf;rw[hrf];simp[ch]
   rw[this]
theorem WC(s:List UInt8):(mj s).any jf=(List.range s.length).any (yg s):=by
 cases hs:s with
 |nil=>rfl
 |cons c r=>
  rw[<-hs];have h0:0<s.length:=by rw[hs];simp
  have hd:=rE h0;have h1:(s.drop 0).take (1-0)= [ch s 0]:=BU s h0
  have:=Qy (s:=s) _ rfl hd.1 h0 (by rw[h1])
  rw[<-lna ((wU 0 ((s.drop 0).take (1-0)) (s.drop 1)).map (·.2)),<-hd.2.2]at this;rw[this,List.range_eq_range',show s.length=(s.length-1)+1 by omega,List.range'_succ,List.any_cons]
  have:yg s 0=jf [ch s 0]:=by unfold yg jf;simp[jd,ch]
  rw[this];simp
theorem iE(s:List UInt8):jc s=if 65536<s.length then 4 else if (List.range s.length).any (yg s)=true then 11 else 0:=by unfold jc;rw[WC]
theorem x7{p:Nat->Bool}{n i:Nat}(hi:i<n)(h:p i=true):(List.range n).any p=true:=List.any_eq_true.2 ⟨i,by simpa using hi,h⟩
theorem xj{p:Nat->Bool}{n:Nat}(h: ∀i,i<n->p i=false):(List.range n).any p=false:=by
 rw[List.any_eq_false];intro i hi;simp at hi;rw[h i hi];simp
theorem qgd(s:List UInt8)(h:w6)(hs:s.length<=1000000000):ACalls Tryz.prog 153 [.str s] h (.int .i64 (jc s)) h:=by
 rw[iE]
 by_cases hl:65536<s.length
 ·have hl':(65536<(s.length:Int))=True:=xv;rw[ipo hl];refine qJ Be (by simp) ?_;simp only[lco,lnl,Nat.reduceAdd,Nat.reduceSub,List.replicate,lca,lna,lan];simp (disch:=omega) only[C0,hl',go_sem,qt,dvP,mdP]
  repeat' first|exact wm|fail
 ·have hl':(65536<(s.length:Int))=False:=xD;rw[ine hl];refine qJ Be (by simp) ?_;simp only[lco,lnl,Nat.reduceAdd,Nat.reduceSub,List.replicate,lca,lna,lan];simp (disch:=omega) only[C0,hl',go_sem,qt,dvP,mdP]
  repeat' first|(refine qO (t95 s _ hs) ?_ ?_;exact flk;simp (disch:=omega) only[hl',b8,go_sem,qt,dvP,mdP])
  refine qp (T:=λi:Nat=>zw 34 [(0,.str s),(3,b8 (aZ s)),(4,.int .i64 i)]) (H:=λ_=>h) (inv:=λi=>i<=s.length∧ ∀j,j<i->yg s j=false) (m:=λi=>s.length-i) 0 ⟨om,om⟩ (Wk.temps ?_) ?_
  ·(simp only[b8,zw,List.foldl,go_sem,qg,qc,qa,qf];try exact wr)
  ·rintro i ⟨i1,i2⟩ K hK;have hrl:(aZ s).length=s.length:=by simp[aZ]
   by_cases hi:i<s.length
   ·have hg:=eX hi
    by_cases hb:yg s i=true
    ·rw[ipo (x7 hi hb)];unfold yg at hb;simp (disch:=omega) only[zw,List.foldl,b8,hrl,hg,kn,go_sem,qt,dvP,mdP]
     repeat' first|(refine qO (de _ _) ?_ ?_;exact flk;simp (disch:=omega) only[b8,hrl,hg,kn,go_sem,qt,dvP,mdP])|(apply qh;exact rvk;simp only[go_sem];first|exact qi|apply qe)|(with_reducible first|intro _|apply aiA)|exact clz|fail
     all_goals
      refine hK _ _ (i+1) ⟨om,?_⟩ om (Wk.temps ?_)
      ·exfalso;grind
      ·(simp only[b8,hrl,zw,List.foldl,go_sem,qg,qc,qa,qf];try exact wr)
    ·have hb':yg s i=false:=by simpa using hb
     unfold yg at hb;simp (disch:=omega) only[zw,List.foldl,b8,hrl,hg,kn,go_sem,qt,dvP,mdP]
     repeat' first|(refine qO (de _ _) ?_ ?_;exact flk;simp (disch:=omega) only[b8,hrl,hg,kn,go_sem,qt,dvP,mdP])|(apply qh;exact rvk;simp only[go_sem];apply qe)|(with_reducible first|intro _|apply aiA)|exact clz|fail
     all_goals first
      |(exfalso;grind)
      |skip
     all_goals
      refine hK _ _ (i+1) ⟨om,λj hj=> ?_⟩ om (Wk.temps ?_)
      ·by_cases e:j=i
       ·subst e;exact hb'
       ·exact i2 j om
      ·(simp only[b8,hrl,zw,List.foldl,go_sem,qg,qc,qa,qf];try exact wr)
   ·have e:i=s.length:=by omega
    subst e;rw[xj i2];simp (disch:=omega) only[zw,List.foldl,go_sem,qt,dvP,mdP]
    repeat' first|exact wm|(with_reducible first|intro _|apply aiA)|exact clz|fail
end HY
end
section
open Go Go.Proofs AF HY
namespace HY
theorem rW(b:UInt8):0<=kind b∧kind b<=6:=by
 unfold kind li
 (repeat' split)<;>omega
theorem HC(s:List UInt8)(p:UInt8->Bool):(List.range s.length).any (λi=>p (ch s i))=s.any p:=by
 rw[Bool.eq_iff_iff,List.any_eq_true,List.any_eq_true];constructor
 ·rintro⟨i,hi,h⟩;simp at hi;refine⟨s[i],List.getElem_mem hi,?_⟩;simpa[ch,hi] using h
 ·rintro⟨x,hx,h⟩;obtain⟨i,hi,rfl⟩:=List.mem_iff_getElem.1 hx;exact⟨i,by simpa using hi,by simpa[ch,hi] using h⟩
def spc(c:UInt8):Bool:=decide (kind c=5)||decide (kind c=6)
theorem yO(s:List UInt8):kU s=(decide (0<s.length)&&decide (s.length<=64)&&decide (jc s=0)&&(decide (kind (ch s 0)=1)||decide (kind (ch s 0)=3))&& !((List.range s.length).any λi=>spc (ch s i))):=by
 rw[HC];rfl
theorem t93(s:List UInt8)(h:w6)(hs:s.length<=1000000000):ACalls Tryz.prog 100 [.str s] h (.bool (kU s)) h:=by
 obtain⟨c,hc⟩:=wD (jc s)
 have h118: ∀h:w6,ACalls Tryz.prog 153 [.str s] h (.int .i64 c) h:=λh=>by rw[hc];exact qgd s h hs
 rw[yO,<-hc]
 by_cases g0:0<s.length∧s.length<=64∧c=0∧(kind (ch s 0)=1∨kind (ch s 0)=3)
 ·obtain⟨g1,g2,g3,g4⟩:=g0;have e:(decide (0<s.length)&&decide (s.length<=64)&&decide (c=0)&&(decide (kind (ch s 0)=1)||decide (kind (ch s 0)=3)))=true:=by simp[g1,g2,g3,g4]
  rw[e,Bool.true_and];have k1:((s.length:Int)<1)=False:=xD;have k2:(64<(s.length:Int))=False:=xD;refine qJ iP (by simp) ?_;simp only[lco,lnl,Nat.reduceAdd,Nat.reduceSub,List.replicate,lca,lna,lan];simp (disch:=omega) only[rl,k1,k2,go_sem,qt,dvP,mdP]
  repeat' first|(refine qO (de _ _) ?_ ?_;exact flk;simp (disch:=omega) only[k1,k2,g3,kn,go_sem,qt,dvP,mdP])|(refine qU (λe=>⟨?_,h118 _⟩) ?_;exact flk;simp (disch:=omega) only[k1,k2,g3,kn,go_sem,qt,dvP,mdP])|(apply qh;exact rvk;simp only[go_sem];apply qd)|(with_reducible first|intro _|apply aiA)|exact clz|fail
  refine qp (T:=λi:Nat=>zw 38 [(0,.str s),(4,.int .i64 i)]) (H:=λ_=>h) (inv:=λi=>i<=s.length∧ ∀j,j<i->spc (ch s j)=false) (m:=λi=>s.length-i) 0 ⟨om,om⟩ (Wk.temps ?_) ?_
  ·(simp only[zw,List.foldl,go_sem,qg,qc,qa,qf];try exact wr)
  ·rintro i ⟨i1,i2⟩ K hK
   by_cases hi:i<s.length
   ·have hr:=rW (ch s i);cases hb:spc (ch s i)with
    |true=>
     rw[x7 hi hb];unfold spc at hb;have hk:(4<kind (ch s i))=True:=eqt (by grind);simp (disch:=omega) only[zw,List.foldl,kn,go_sem,qt,dvP,mdP]
     repeat' first|(refine qO (de _ _) ?_ ?_;exact flk;simp (disch:=omega) only[kn,hk,go_sem,qt,dvP,mdP])|(apply qh;exact rvk;simp only[go_sem];first|exact qi|apply qd)|(with_reducible first|intro _|apply aiA)|exact clz|fail
    |false=>
     have hk:(4<kind (ch s i))=False:=eqf (by unfold spc at hb;grind);simp (disch:=omega) only[zw,List.foldl,kn,go_sem,qt,dvP,mdP]
     repeat' first|(refine qO (de _ _) ?_ ?_;exact flk;simp (disch:=omega) only[kn,hk,go_sem,qt,dvP,mdP])|(apply qh;exact rvk;simp only[go_sem];apply qd)|(with_reducible first|intro _|apply aiA)|exact clz|fail
     refine hK _ _ (i+1) ⟨om,λj hj=> ?_⟩ om (Wk.temps ?_)
     ·by_cases e:j=i
      ·subst e;exact hb
      ·exact i2 j om
     ·(simp only[zw,List.foldl,go_sem,qg,qc,qa,qf];try exact wr)
   ·have e:i=s.length:=by omega
    subst e;rw[xj i2];simp (disch:=omega) only[zw,List.foldl,go_sem,qt,dvP,mdP]
    repeat' first|exact wm|(with_reducible first|intro _|apply aiA)|exact clz|fail
 ·have e:(decide (0<s.length)&&decide (s.length<=64)&&decide (c=0)&&(decide (kind (ch s 0)=1)||decide (kind (ch s 0)=3)))=false:=by
   rw[Bool.eq_false_iff];intro h;simp only[Bool.and_eq_true,Bool.or_eq_true,decide_eq_true_eq]at h;exact g0 ⟨h.1.1.1,h.1.1.2,h.1.2,h.2⟩
  rw[e,Bool.false_and]
  by_cases g1:0<s.length
  ·by_cases g2:s.length<=64
   ·have k1:((s.length:Int)<1)=False:=xD;have k2:(64<(s.length:Int))=False:=xD
    by_cases g3:c=0
    ·have g4: ¬kind (ch s 0)=1∧ ¬kind (ch s 0)=3:=by
      constructor
      ·intro h;exact g0 ⟨g1,g2,g3,.inl h⟩
      ·intro h;exact g0 ⟨g1,g2,g3,.inr h⟩
     have g5:=g4.1;have g6:=g4.2;refine qJ iP (by simp) ?_;simp only[lco,lnl,Nat.reduceAdd,Nat.reduceSub,List.replicate,lca,lna,lan];simp (disch:=omega) only[rl,k1,k2,go_sem,qt,dvP,mdP]
     repeat' first|(refine qO (de _ _) ?_ ?_;exact flk;simp (disch:=omega) only[k1,k2,g3,kn,g5,g6,go_sem,qt,dvP,mdP])|(refine qU (λe=>⟨?_,h118 _⟩) ?_;exact flk;simp (disch:=omega) only[k1,k2,g3,kn,g5,g6,go_sem,qt,dvP,mdP])|exact wm|with_reducible apply aiA|exact clz|fail
    ·refine qJ iP (by simp) ?_;simp only[lco,lnl,Nat.reduceAdd,Nat.reduceSub,List.replicate,lca,lna,lan];simp (disch:=omega) only[rl,k1,k2,go_sem,qt,dvP,mdP]
     repeat' first|(refine qU (λe=>⟨?_,h118 _⟩) ?_;exact flk;simp (disch:=omega) only[k1,k2,g3,kn,go_sem,qt,dvP,mdP])|exact wm|fail
   ·have k1:((s.length:Int)<1)=False:=xD;have k2:(64<(s.length:Int))=True:=xv;refine qJ iP (by simp) ?_;simp only[lco,lnl,Nat.reduceAdd,Nat.reduceSub,List.replicate,lca,lna,lan];simp (disch:=omega) only[rl,k1,k2,go_sem,qt,dvP,mdP]
    repeat' first|(refine qj ((.int .i64 0)) ?_;simp (disch:=omega) only[k1,k2,go_sem,qt,dvP,mdP])|exact wm|fail
  ·have k1:((s.length:Int)<1)=True:=xv;refine qJ iP (by simp) ?_;simp only[lco,lnl,Nat.reduceAdd,Nat.reduceSub,List.replicate,lca,lna,lan];simp (disch:=omega) only[rl,k1,go_sem,qt,dvP,mdP]
   repeat' first|(refine qj ((.int .i64 0)) ?_;simp (disch:=omega) only[k1,go_sem,qt,dvP,mdP])|exact wm|fail
end HY
end
section
open Go Go.Proofs AF HY
namespace LN
def ld(c:UInt8):Bool:=decide (kind c=1)||decide (kind c=3)
theorem t66(s:List UInt8)(h:w6)(hs:s.length<=1000000000):ACalls Tryz.prog 227 [.str s] h (.int .i64 ((s.countP ld:Nat):Int)) h:=by
 refine qJ Ni (by simp) ?_;simp only[lco,lnl,Nat.reduceAdd,Nat.reduceSub,List.replicate,lca,lna,lan];simp (disch:=omega) only[Iz,go_sem];refine qp (T:=λi:Nat=>zw 25 [(0,.str s),(3,.int .i64 (((s.take i).countP ld:Nat):Int)),(7,.int .i64 s.length),(8,.int .i64 i)]) (H:=λ_=>h) (inv:=λi=>i<=s.length) (m:=λi=>s.length-i) 0 om (Wk.temps ?_) ?_
 ·(simp only[zw,List.foldl,go_sem,qg,qc,qa,qf];try exact wr)
 ·rintro i i1 K hK
  by_cases hi:i<s.length
  ·obtain⟨c,hc⟩:=wD (s.getD i 0)
   have e1:(s[i]?).getD 0=c:=by rw[hc,gdqA]
   have e2:s.take (i+1)=s.take i++ [c]:=by rw[List.take_add_one,hc,gdqA,zG hi];rfl
   have hb:=c.toNat_lt;have c92:=λh=>qeP (c.toNat:Int) h om om
   have hn:(s.take i).countP ld<=s.length:=Nat.le_trans List.countP_le_length (by simp;omega);obtain⟨n,hN⟩:=wD ((s.take i).countP ld)
   rw[<-hN]at hn ⊢;obtain⟨k,hk⟩:=wD (li (c.toNat:Int))
   have hk':k=kind c:=hk;rw[<-hk]at c92;have e3:(s.take (i+1)).countP ld=n+if ld c=true then 1 else 0:=by
    rw[e2,List.countP_append,<-hN];simp[List.countP_cons]
   by_cases g1:k=1
   ·have k1:(k=1)=True:=eqt g1;have g:ld c=true:=by unfold ld;rw[<-hk',g1];rfl
    rw[ipo g]at e3;simp (disch:=omega) only[zw,List.foldl,e1,go_sem]
    repeat' first|(refine qO (c92 _) ?_ ?_;exact flk;simp (disch:=omega) only[k1,go_sem,qt])|(apply qh;exact rvk;simp only[go_sem];apply qe)|(with_reducible first|intro _|apply aiA)|exact clz|fail
    refine hK _ _ (i+1) om om (Wk.temps ?_);rw[e3]
    (simp only[zw,List.foldl,go_sem,qg,qc,qa,qf];try exact wr)
   ·have k1:(k=1)=False:=eqf g1
    by_cases g2:k=3
    ·have k2:(k=3)=True:=eqt g2;have g:ld c=true:=by unfold ld;rw[<-hk',g2];rfl
     rw[ipo g]at e3;simp (disch:=omega) only[zw,List.foldl,e1,go_sem]
     repeat' first|(refine qO (c92 _) ?_ ?_;exact flk;simp (disch:=omega) only[k1,k2,go_sem,qt])|(apply qh;exact rvk;simp only[go_sem];apply qe)|(with_reducible first|intro _|apply aiA)|exact clz|fail
     refine hK _ _ (i+1) om om (Wk.temps ?_);rw[e3]
     (simp only[zw,List.foldl,go_sem,qg,qc,qa,qf];try exact wr)
    ·have k2:(k=3)=False:=eqf g2;have g: ¬ld c=true:=by unfold ld;rw[<-hk',dqf g1,dqf g2];simp
     rw[ine g]at e3;simp (disch:=omega) only[zw,List.foldl,e1,go_sem]
     repeat' first|(refine qO (c92 _) ?_ ?_;exact flk;simp (disch:=omega) only[k1,k2,go_sem,qt])|(apply qh;exact rvk;simp only[go_sem];apply qe)|(with_reducible first|intro _|apply aiA)|exact clz|fail
     refine hK _ _ (i+1) om om (Wk.temps ?_);rw[e3,Nat.add_zero]
     (simp only[zw,List.foldl,go_sem,qg,qc,qa,qf];try exact wr)
  ·have e:i=s.length:=by omega
   subst e;rw[List.take_length];simp (disch:=omega) only[zw,List.foldl,go_sem]
   repeat' first|exact wm|(with_reducible first|intro _|apply aiA)|exact clz|fail
def wL(s:List UInt8):Bool:=decide (s≠ [])&&(decide (s.length<=16)&&decide (s.countP ld=s.length))
theorem t44(s:List UInt8)(h:w6)(hs:s.length<=1000000000):ACalls Tryz.prog 169 [.str s] h (.bool (wL s)) h:=by
 have c66:=λh=>t66 s h hs
 unfold wL
 by_cases g1:s= []
 ·have k1:(s= [])=True:=eqt g1;rw[dqf (show¬s≠ []from λhc=>hc g1)];refine qJ oO (by simp) ?_;simp only[lco,lnl,Nat.reduceAdd,Nat.reduceSub,List.replicate,lca,lna,lan];simp (disch:=omega) only[u7,k1,go_sem]
  repeat' first|(refine qj ((.int .i64 0)) ?_;simp (disch:=omega) only[go_sem])|exact wm|(with_reducible first|intro _|apply aiA)|exact clz|fail
 ·have k1:(s= [])=False:=eqf g1;rw[dqt (show s≠ []from g1)]
  by_cases g2:s.length<=16
  ·have k2:((s.length:Int)<=16)=True:=xv;rw[dqt g2]
   by_cases g3:s.countP ld=s.length
   ·have k3:(((s.countP ld:Nat):Int)=s.length)=True:=xv;rw[dqt g3];refine qJ oO (by simp) ?_;simp only[lco,lnl,Nat.reduceAdd,Nat.reduceSub,List.replicate,lca,lna,lan];simp (disch:=omega) only[u7,k1,k2,go_sem]
    repeat' first|(refine qU (λe=>⟨?_,c66 _⟩) ?_;exact flk;simp (disch:=omega) only[k3,go_sem])|exact wm|fail
   ·have k3:(((s.countP ld:Nat):Int)=s.length)=False:=xD;rw[dqf g3];refine qJ oO (by simp) ?_;simp only[lco,lnl,Nat.reduceAdd,Nat.reduceSub,List.replicate,lca,lna,lan];simp (disch:=omega) only[u7,k1,k2,go_sem]
    repeat' first|(refine qU (λe=>⟨?_,c66 _⟩) ?_;exact flk;simp (disch:=omega) only[k3,go_sem])|exact wm|fail
  ·have k2:((s.length:Int)<=16)=False:=xD;rw[dqf g2];refine qJ oO (by simp) ?_;simp only[lco,lnl,Nat.reduceAdd,Nat.reduceSub,List.replicate,lca,lna,lan];simp (disch:=omega) only[u7,k1,k2,go_sem]
   repeat' first|(refine qj ((.int .i64 0)) ?_;simp (disch:=omega) only[go_sem])|exact wm|fail
theorem t77(s:List UInt8)(h:w6)(hs:s.length<=1000000000):ACalls Tryz.prog 189 [.str s] h (.int .i64 ((s.countP ld:Nat):Int)) h:=by
 refine qJ M8 (by simp) ?_;simp only[lco,lnl,Nat.reduceAdd,Nat.reduceSub,List.replicate,lca,lna,lan];simp (disch:=omega) only[Is,go_sem];refine qp (T:=λi:Nat=>zw 25 [(0,.str s),(3,.int .i64 (((s.take i).countP ld:Nat):Int)),(4,.int .i64 i)]) (H:=λ_=>h) (inv:=λi=>i<=s.length) (m:=λi=>s.length-i) 0 om (Wk.temps ?_) ?_
 ·(simp only[zw,List.foldl,go_sem,qg,qc,qa,qf];try exact wr)
 ·rintro i i1 K hK
  by_cases hi:i<s.length
  ·obtain⟨c,hc⟩:=wD (s.getD i 0)
   have e1:(s[i]?).getD 0=c:=by rw[hc,gdqA]
   have e2:s.take (i+1)=s.take i++ [c]:=by rw[List.take_add_one,hc,gdqA,zG hi];rfl
   have c55:=λh=>qeR (c.toNat:Int) h
   have hn:(s.take i).countP ld<=s.length:=Nat.le_trans List.countP_le_length (by simp;omega);obtain⟨n,hN⟩:=wD ((s.take i).countP ld)
   rw[<-hN]at hn ⊢;obtain⟨k,hk⟩:=wD (li (c.toNat:Int))
   have hk':k=kind c:=hk;rw[<-hk]at c55;have e3:(s.take (i+1)).countP ld=n+if ld c=true then 1 else 0:=by
    rw[e2,List.countP_append,<-hN];simp[List.countP_cons]
   have q0:((i:Int)<s.length)=True:=xv
   by_cases g1:k=1
   ·have k1:(k=1)=True:=eqt g1;have g:ld c=true:=by unfold ld;rw[<-hk',g1];rfl
    rw[ipo g]at e3;simp (disch:=omega) only[zw,List.foldl,e1,q0,go_sem]
    repeat' first|(refine qO (c55 _) ?_ ?_;exact flk;simp (disch:=omega) only[k1,go_sem,qt])|with_reducible apply aiA|exact clz|fail
    refine hK _ _ (i+1) om om (Wk.temps ?_);rw[e3]
    (simp only[zw,List.foldl,go_sem,qg,qc,qa,qf];try exact wr)
   ·have k1:(k=1)=False:=eqf g1
    by_cases g2:k=3
    ·have k2:(k=3)=True:=eqt g2;have g:ld c=true:=by unfold ld;rw[<-hk',g2];rfl
     rw[ipo g]at e3;simp (disch:=omega) only[zw,List.foldl,e1,q0,go_sem]
     repeat' first|(refine qO (c55 _) ?_ ?_;exact flk;simp (disch:=omega) only[k1,k2,go_sem,qt])|with_reducible apply aiA|exact clz|fail
     refine hK _ _ (i+1) om om (Wk.temps ?_);rw[e3]
     (simp only[zw,List.foldl,go_sem,qg,qc,qa,qf];try exact wr)
    ·have k2:(k=3)=False:=eqf g2;have g:ld c=false:=by unfold ld;rw[<-hk',dqf g1,dqf g2];rfl
     rw[ine (by rw[g];simp)]at e3;simp (disch:=omega) only[zw,List.foldl,e1,q0,go_sem]
     repeat' first|(refine qO (c55 _) ?_ ?_;exact flk;simp (disch:=omega) only[k1,k2,go_sem,qt])|with_reducible apply aiA|exact clz|fail
     refine hK _ _ (i+1) om om (Wk.temps ?_);rw[e3]
     (simp only[zw,List.foldl,go_sem,qg,qc,qa,qf];try exact wr)
  ·have e:i=s.length:=by omega
   subst e;rw[List.take_length];have q0:((s.length:Int)<s.length)=False:=xD;simp (disch:=omega) only[zw,List.foldl,q0,go_sem]
   repeat' first|exact wm|fail
theorem ZM{s:List UInt8}(h1:s≠ [])(h2:s.length<=16)(h3:s.countP ld=s.length):kU s=true:=by
 have hall: ∀c∈s,ld c=true:=List.countP_eq_length.1 h3;have hch: ∀i,i<s.length->kind (ch s i)=1∨kind (ch s i)=3:=by
  intro i hi;have hm:ch s i∈s:=by
   have e:ch s i=s[i]:=by simp[ch,hi]
   rw[e];exact List.getElem_mem hi
  have:=hall _ hm
  unfold ld at this;simpa using this
 have hp:0<s.length:=List.length_pos_iff.2 h1;have hc:jc s=0:=by
  rw[iE,ine om,ine];rw[List.any_eq_true];rintro⟨i,hi,hb⟩
  have:=hch i (List.mem_range.1 hi)
  unfold yg at hb;rcases this with h|h<;>rw[h]at hb<;>simp at hb
 rw[yO,dqt hp,dqt (show s.length<=64 by omega),dqt hc];have h0:=hch 0 hp;have e0:(decide (kind (ch s 0)=1)||decide (kind (ch s 0)=3))=true:=by simpa using h0
 rw[e0];have ea:((List.range s.length).any λi=>spc (ch s i))=false:=by
  rw[List.any_eq_false];intro i hi
  have:=hch i (List.mem_range.1 hi)
  unfold spc;rcases this with h|h<;>rw[h]<;>decide
 rw[ea];rfl
theorem t53(s:List UInt8)(h:w6)(hs:s.length<=1000000000):ACalls Tryz.prog 141 [.str s] h (.bool (wL s)) h:=by
 have c76:=λh=>t93 s h hs
 have c77:=λh=>t77 s h hs
 unfold wL
 by_cases g2:s.length<=16
 ·have k2:((s.length:Int)<=16)=True:=xv;rw[dqt g2,Bool.true_and]
  by_cases g3:s.countP ld=s.length
  ·have k3:((s.countP ld:Int)=s.length)=True:=xv;rw[dqt g3,Bool.and_true]
   by_cases g1:s= []
   ·rw[dqf (λhc=>hc g1)];have hw:kU s=false:=by subst g1;rw[yO];rfl
    rw[hw]at c76;refine qJ iQ (by simp) ?_;simp only[lco,lnl,Nat.reduceAdd,Nat.reduceSub,List.replicate,lca,lna,lan];simp (disch:=omega) only[rm,k2,go_sem]
    repeat' first|(refine qj ((.int .i64 0)) ?_;simp (disch:=omega) only[go_sem])|(refine qU (λe=>⟨?_,c76 _⟩) ?_;exact flk;simp (disch:=omega) only[go_sem])|exact wm|fail
   ·rw[dqt g1];rw[ZM g1 g2 g3]at c76;refine qJ iQ (by simp) ?_;simp only[lco,lnl,Nat.reduceAdd,Nat.reduceSub,List.replicate,lca,lna,lan];simp (disch:=omega) only[rm,k2,go_sem]
    repeat' first|((first|refine qU (λe=>⟨?_,c76 _⟩) ?_|refine qU (λe=>⟨?_,c77 _⟩) ?_);exact flk;simp (disch:=omega) only[k3,go_sem])|exact wm|fail
  ·have k3:((s.countP ld:Int)=s.length)=False:=xD;rw[dqf g3,Bool.and_false];cases hw:kU s with
   |false=>
    rw[hw]at c76;refine qJ iQ (by simp) ?_;simp only[lco,lnl,Nat.reduceAdd,Nat.reduceSub,List.replicate,lca,lna,lan];simp (disch:=omega) only[rm,k2,go_sem]
    repeat' first|(refine qj ((.int .i64 0)) ?_;simp (disch:=omega) only[go_sem])|(refine qU (λe=>⟨?_,c76 _⟩) ?_;exact flk;simp (disch:=omega) only[go_sem])|exact wm|fail
   |true=>
    rw[hw]at c76;refine qJ iQ (by simp) ?_;simp only[lco,lnl,Nat.reduceAdd,Nat.reduceSub,List.replicate,lca,lna,lan];simp (disch:=omega) only[rm,k2,go_sem]
    repeat' first|((first|refine qU (λe=>⟨?_,c76 _⟩) ?_|refine qU (λe=>⟨?_,c77 _⟩) ?_);exact flk;simp (disch:=omega) only[k3,go_sem])|exact wm|fail
 ·have k2:((s.length:Int)<=16)=False:=xD;rw[dqf g2,Bool.false_and,Bool.and_false];refine qJ iQ (by simp) ?_;simp only[lco,lnl,Nat.reduceAdd,Nat.reduceSub,List.replicate,lca,lna,lan];simp (disch:=omega) only[rm,k2,go_sem]
  repeat' first|(refine qj ((.bool false)) ?_;simp (disch:=omega) only[go_sem])|exact wm|fail
end LN
end
section
open Go Go.Proofs AF HY
namespace HY
theorem qeQ(s:List UInt8)(f a:Nat)(h:w6)(hf:f<s.length):ACalls Tryz.prog 274 [.str s,.int .i64 f,.int .i64 a] h (.bool (decide (kind (ch s f)=1)&&decide (f<a))) h:=by
 refine qJ ND (by simp) ?_;simp only[lco,lnl,Nat.reduceAdd,Nat.reduceSub,List.replicate,lca,lna,lan];simp (disch:=omega) only[IP,kn,go_sem]
 repeat' first|(refine qO (bz _ _) ?_ ?_;exact flk;simp (disch:=omega) only[go_sem])|(apply qh;exact rvk;simp only[go_sem];apply qd)|with_reducible apply aiA
 all_goals first
  |omega
  |(congr 1;exact decide_eq_decide.2 om)
  |skip
theorem qc2(s:List UInt8)(hs:s.length<=1000000000):tV Tryz.prog 273 [.ip [.str s]] ((z8 s).map λx=> [.int .i64 (x.1:Int),.str x.2]):=by
 intro h ts L S E hS hE body start hts;refine ah NC (by simp) ?_;simp only[lco,lnl,Nat.reduceAdd,Nat.reduceSub,List.replicate,lca,lna,lan];simp (disch:=omega) only[IN,go_sem]
 all_goals first
  |omega
  |skip
 refine qp (T:=λi:Nat×Nat×Nat×w6=>zw 37 [(0,.yld h.length),(1,.ip [.str s]),(3,.int .i64 i.1),(4,.int .i64 i.2.1)]) (H:=λi=>i.2.2.2++ [.lp .ready ts L])
  (inv:=λi=>S i.2.2.1 i.2.2.2∧((i.2.1<=s.length∧i.1<i.2.1∧(z8 s).drop i.2.2.1=wU i.1 ((s.drop i.1).take (i.2.1-i.1)) (s.drop i.2.1))∨(s.length<i.2.1∧i.2.1<=s.length+1∧i.2.2.1=(z8 s).length))) (m:=λi=>s.length+1-i.2.1) (0,1,0,h) ⟨start,?_⟩ (Wk.temps ?_) ?_
 ·simp only;cases s with
  |nil=>right;simp[z8]
  |cons c r=>left;simp[z8]
 ·(simp only[zw,List.foldl,go_sem,qg,qc,qf];try exact wr)
 ·rintro⟨f,i,j,hh⟩ ⟨i1,i2⟩ K hK;simp only at i1 i2 hK;obtain⟨hlen,hlow⟩:=hS _ _ i1;rcases i2 with⟨g1,g2,g3⟩|⟨g1,g2,rfl⟩
  ·have hjl:j<(z8 s).length:=by
    have:(z8 s).drop j≠ []:=by rw[g3];exact WB _ _ _
    by_cases hj:j<(z8 s).length
    ·exact hj
    ·exact absurd (List.drop_of_length_le om) this
   by_cases hk:i<s.length∧kind (ch s i)=2∧kind (ch s f)=1
   ·have hst:=cn g2 hk.1;rw[ipo hk.2]at hst;simp (disch:=omega) only[zw,List.foldl,kn,go_sem]
    repeat' first|((first|refine qU (λe=>⟨?_,bz _ _⟩) ?_|refine qU (λe=>⟨?_,qeQ s f i _ om⟩) ?_);exact flk;simp (disch:=omega) only[hk.2.1,hk.2.2,go_sem,qt])|(with_reducible first|intro _|apply aiA)
    all_goals first
     |omega
     |skip
    refine hK _ _ (f,i+1,j,hh) ⟨i1,.inl ⟨by simp only;omega,by simp only;omega,by rw[g3,hst]⟩⟩ (by simp only;omega) (Wk.temps ?_)
    (simp only[zw,List.foldl,go_sem,qg,qc,qa,qf];try exact wr)
   ·obtain⟨rest,hrest,hr1⟩: ∃rest,(z8 s).drop j=(f,(s.drop f).take (i-f))::rest∧(if i<s.length then rest=wU i ((s.drop i).take (i+1-i)) (s.drop (i+1)) else rest= []):=by
     by_cases hi:i<s.length
     ·have hst:=cn g2 hi;rw[ine (λh=>hk ⟨hi,h⟩)]at hst;exact⟨_,g3.trans hst,by rw[ipo hi]⟩
     ·refine⟨[],?_,by rw[ine hi]⟩;rw[g3,show s.drop i= []from List.drop_of_length_le om];rfl
    rw[List.drop_eq_getElem_cons hjl]at hrest;obtain⟨hget,hdrop⟩:=List.cons.inj hrest;have hb:=body j hh [] (by simpa using hjl) i1;rw[List.getElem_map,hget]at hb;simp only at hb;have hfit:(i:Int)-f=((i-f:Nat):Int):=by omega
    simp (disch:=omega) only[zw,List.foldl,kn,go_sem]
    repeat' first|((first|refine qU (λe=>⟨?_,bz _ _⟩) ?_|refine qU (λe=>⟨?_,qeQ s f i _ om⟩) ?_);exact flk;simp (disch:=omega) only[go_sem,qt])|(with_reducible first|intro _|apply aiA)
    all_goals first
     |omega
     |exact⟨.ready,ts,L,kT hlen⟩
     |skip
    refine kf.mono ?_ hb;rintro v h' ⟨hh',⟨rfl,hn,rfl⟩|⟨st,rfl,hs',rfl⟩⟩
    ·simp (disch:=omega) only[go_sem,qt]
     all_goals first
      |omega
      |(rename_i hx;revert hx;simp;done)
      |skip
     by_cases hi:i<s.length
     ·rw[ipo hi]at hr1;refine hK _ _ (i,i+1,j+1,hh') ⟨hn,.inl ⟨by simp only;omega,by simp only;omega,by simp only;rw[hdrop,hr1]⟩⟩ (by simp only;omega) (Wk.temps ?_)
      (simp only[zw,List.foldl,go_sem,qg,qc,qa,qf];try exact wr)
     ·rw[ine hi]at hr1;refine hK _ _ (i,i+1,j+1,hh') ⟨hn,.inr ⟨by simp only;omega,by simp only;omega,?_⟩⟩ (by simp only;omega) (Wk.temps ?_)
      ·have:((z8 s).drop (j+1)).length=0:=by rw[hdrop,hr1];rfl
       rw[List.length_drop]at this;simp only;omega
      ·(simp only[zw,List.foldl,go_sem,qg,qc,qa,qf];try exact wr)
    ·simp (disch:=omega) only[go_sem,qt];obtain⟨r1,r2⟩:=(hE _ _ hs').ret (L:=L) st hts;exact oR trivial r1 r2 ⟨_,.inr ⟨st,hs',rfl⟩⟩ (qi)
  ·simp (disch:=omega) only[zw,List.foldl,go_sem]
   repeat' first|(with_reducible first|intro _|apply aiA)
   all_goals first
    |omega
    |skip
   obtain⟨r1,r2⟩:=(hS _ _ i1).ret (L:=L) .ready hts;exact jR trivial r1 r2 ⟨hh,.inl ⟨by simpa using i1,rfl⟩⟩ (qi)
def Qx(s:List UInt8):AV:= .fn (.func 273) [] [.ip [.str s]]
def iF(s:List UInt8):List w7:=(z8 s).map λx=> [.int .i64 (x.1:Int),.str x.2]
theorem iG(s:List UInt8):(iF s).length=(mj s).length:=by simp[iF,mj]
theorem QA(s:List UInt8){i:Nat}(hi:i<(iF s).length): ∃n:Nat,(iF s)[i]= [.int .i64 (n:Int),.str ((mj s).getD i [])]:=by
 have h1:i<(z8 s).length:=by simpa[iF] using hi
 refine⟨((z8 s)[i]).1,?_⟩;simp[iF,mj,gdqA,h1]
theorem t91(s:List UInt8)(h:w6):ACalls Tryz.prog 239 [.str s] h (Qx s) h:=by
 refine qJ Nq (by simp) ?_;simp only[lco,lnl,Nat.reduceAdd,Nat.reduceSub,List.replicate,lca,lna];simp (disch:=omega) only[IE,go_sem]
 repeat' first|exact wj|fail
theorem rJ(s:List UInt8):(Qx s).flag=true:=rfl
theorem nO(s:List UInt8):(Qx s).strip=Qx s:=rfl
attribute [go_sem] rJ nO
theorem _root_.AF.LowI.app{h a b:w6}(e:b.length=a.length)(hb: ∀o∈b,o∈a∨(lowO (h.length+a.length) o∧lowO (h.length+a.length+1) o)):LowI (h++a) (h++b):=by
 refine⟨by simp[e],λo ho=> ?_⟩;rw[lap];rcases List.mem_append.1 ho with ho|ho
 ·exact .inl (List.mem_append_left _ ho)
 ·rcases hb o ho with h1|h1
  ·exact .inl (List.mem_append_right _ h1)
  ·exact .inr h1
theorem KP(l:List (List UInt8)){i:Nat}(h:i<l.length):l.take (i+1)=l.take i++ [l.getD i []]:=by
 rw[List.take_add_one,zG h];simp[gdqA,h]
theorem fj{l:List (List UInt8)}{p:List UInt8->Bool}{i:Nat}(h:i<l.length):(l.take (i+1)).any p=((l.take i).any p||p (l.getD i [])):=by
 rw[KP l h,List.any_append];simp
theorem HB{l:List (List UInt8)}{p:List UInt8->Bool}{i:Nat}(h:i<l.length)(hp:p (l.getD i [])=true):l.any p=true:=by
 rw[List.any_eq_true];refine⟨l.getD i [],?_,hp⟩;rw[gdqA,zG h];exact List.getElem_mem h
theorem Dw{s:List UInt8}{i:Nat}(h:i<(mj s).length):0<((mj s).getD i []).length:=by
 apply List.length_pos_iff.2;apply Dx (s:=s);rw[gdqA,zG h];exact List.getElem_mem h
set_option maxHeartbeats 4000000 in
theorem qdx(s:List UInt8)(h:w6)(hs:s.length<=1000000000):ACalls Tryz.prog 181 [.str s] h (.int .i64 (jc s)) h:=by
 have hit:=qc2 s hs;unfold jc
 by_cases hl:65536<s.length
 ·have hl':(65536<(s.length:Int))=True:=xv;rw[ipo hl];refine qJ Bh (by simp) ?_;simp only[lco,lnl,Nat.reduceAdd,Nat.reduceSub,List.replicate,lca,lna];simp (disch:=omega) only[C3,hl',go_sem]
  repeat' first|exact wj|fail
  all_goals trace_state
 ·have hl':(65536<(s.length:Int))=False:=xD;rw[ine hl];refine qJ Bh (by simp) ?_;simp only[lco,lnl,Nat.reduceAdd,Nat.reduceSub,List.replicate,lca,lna];simp (disch:=omega) only[C3,hl',go_sem]
  repeat' first|(refine qO (t91 s _) ?_ ?_;exact flk;simp (disch:=omega) only[go_sem])
  refine sn (xs:=iF s) hit (by intro a ha;simp[iF]at ha;obtain⟨_,_,_,rfl⟩:=ha;rfl)
   (S:=λi hh=>hh=h++ [.mem 1 33 [.int .i64 0]]∧((mj s).take i).any jf=false)
   (E:=λe hh=>e= .ret∧hh=h++ [.mem 1 33 [.int .i64 11]]∧(mj s).any jf=true) ?_ ?_ ?_ ?_ ?_ ?_ ?_
  ·rintro i hh ⟨rfl,_⟩;exact LowI.refl _
  ·rintro e hh ⟨_,rfl,_⟩;refine LowI.app rfl (λo ho=> ?_);simp only[List.mem_cons,List.not_mem_nil,or_false]at ho;subst ho;right;constructor<;>(intro c hc;simp at hc;subst hc;rfl)
  ·exact⟨rfl,by simp⟩
  ·simp[ze,ze.lowVs,Qx]
   try omega
  ·rintro i hh tl L hi ⟨rfl,hno⟩ hlen;obtain⟨n,hx⟩:=QA s hi;rw[iG]at hi;rw[hx];have hnx:=fj (p:=jf) hi;rw[hno,Bool.false_or]at hnx;have hat:=HB (p:=jf) hi;obtain⟨c,hc⟩:=wD ((mj s).getD i [])
   have hcl:=Dw hi;rw[<-hc]at hcl hnx hat ⊢;simp only[kA];simp (disch:=omega) only[List.append_assoc,eq_self,kn,go_sem]
   repeat' first|(refine qO (bz _ _) ?_ ?_;exact flk;simp (disch:=omega) only[eq_self,go_sem])|(with_reducible first|intro _|apply aiA)|exact clz|fail
   ·rename_i hx;exact⟨h++ [.mem 1 33 [.int .i64 11]],by simp,by simp,by simp,hat (by unfold jf;simpa using hx)⟩
   ·rename_i hx;exact⟨h++ [.mem 1 33 [.int .i64 0]],by simp,by simp,by simp,by rw[hnx];unfold jf;simpa using hx⟩
  ·rintro hh ⟨rfl,hno⟩;rw[iG,List.take_length]at hno;rw[hno];simp (disch:=omega) only[go_sem]
   repeat' first|exact wj|fail
   all_goals trace_state
  ·rintro e hh ⟨rfl,rfl,hb⟩;rw[hb];show Ex.inBlock 0 _ .ret _ _;simp (disch:=omega) only[go_sem]
   repeat' first|exact wj|fail
   all_goals trace_state
end HY
end
