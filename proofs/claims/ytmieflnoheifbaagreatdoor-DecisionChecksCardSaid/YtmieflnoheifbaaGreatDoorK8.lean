import Derived.KernelRfl
import Derived.Test.YtmieflnoheifbaaGreatDoorK7
import Derived.Test.YtmieflnoheifbaaGreatDoorK5
import Derived.Test.YtmieflnoheifbaaGreatDoorK3
import Derived.Test.YtmieflnoheifbaaGreatDoorProg
import Derived.Test.YtmieflnoheifbaaGreatDoorK4
set_option linter.all false
set_option maxRecDepth 100000
section
namespace AF
open Go
theorem fi{P:Program}{f:Nat}(fn:Func)(js:List Tmp)(imp:List FuncId)(wks:List Nat){nt ns:Nat}{rs:List RV}{c:C}(h1:P.funcs[f]? =some fn:=by kernel_rfl)
  (h2 : (fn.body.isSome && (fn.name != "runtime.NumGoroutine")) = true := by kernel_rfl) (h3 : (fn.ntmps, js.length) = (nt, ns) := by kernel_rfl) (h4 : (qhy P fn.results.toList, cv P js imp wks (fn.body.getD .skip)) = (some rs, some c) := by kernel_rfl) : qI P f nt ns rs c := by
 cases hb:fn.body with
 |none=>rw[hb]at h2;cases h2
 |some body=>
  rw[hb]at h2 h4;cases h3;simp only[Prod.mk.injEq]at h4;exact⟨fn,body,js,imp,wks,h1,hb,by simpa using h2,rfl,rfl,h4.1,h4.2⟩
def qbD(p:Nat->Bool):Nat->Nat->Int
 |0,_=> -1
 |k+1,i=>if p i=true then i else qbD p k (i+1)
theorem qeu{p:Nat->Bool}{n i:Nat}(hi:i<=n)(h: ∀j,j<i->p j=false):qbD p n 0=qbD p (n-i) i:=by
 induction i with
 |zero=>rfl
 |succ i ih=>
  rw[ih om (λj hj=>h j om),show n-i=(n-(i+1))+1 by omega];simp only[qbD,h i om,Bool.false_eq_true,if_false]
theorem kS{p:Nat->Bool}{n i:Nat}(hi:i<n)(h: ∀j,j<i->p j=false)(hp:p i=true):qbD p n 0=i:=by
 rw[qeu om h,show n-i=(n-i-1)+1 by omega];unfold qbD;rw[hp];rfl
theorem b6{p:Nat->Bool}{n:Nat}(h: ∀j,j<n->p j=false):qbD p n 0= -1:=by
 rw[qeu (nlr n) h,Nat.sub_self];rfl
theorem zU(p:Nat->Bool)(n:Nat):(∃i,i<n∧p i=true∧(∀j,j<i->p j=false)∧qbD p n 0=i)∨((∀j,j<n->p j=false)∧qbD p n 0= -1):=by
 induction n with
 |zero=>exact .inr ⟨λj hj=>by omega,rfl⟩
 |succ n ih=>
  by_cases h: ∃i,i<n+1∧p i=true
  ·rcases ih with⟨i,h1,h2,h3,h4⟩|⟨h1,h2⟩
   ·exact .inl ⟨i,om,h2,h3,kS om h3 h2⟩
   ·obtain⟨i,h3,h4⟩:=h;have e:i=n:=by
     by_cases e:i<n
     ·rw[h1 i e]at h4;cases h4
     ·omega
    subst e;exact .inl ⟨i,h3,h4,h1,kS h3 h1 h4⟩
  ·refine .inr ?_;have h': ∀j,j<n+1->p j=false:=λj hj=>by
    cases e:p j with
    |false=>rfl
    |true=>exact absurd ⟨j,hj,e⟩ h
   exact⟨h',b6 h'⟩
def jv(p:Nat->Bool)(n:Nat):Bool:=decide (0<=qbD p n 0)
theorem qK{p:Nat->Bool}{n:Nat}:jv p n=true↔ ∃i,i<n∧p i=true:=by
 unfold jv;rw[decide_eq_true_iff];rcases zU p n with⟨i,h1,h2,_,h4⟩|⟨h1,h2⟩
 ·rw[h4];exact⟨λ_=>⟨i,h1,h2⟩,λ_=>by omega⟩
 ·rw[h2];exact⟨λh=>by omega,λ⟨i,h3,h4⟩=>by rw[h1 i h3]at h4;cases h4⟩
theorem qq{p:Nat->Bool}{n:Nat}:jv p n=false↔ ∀i,i<n->p i=false:=by
 constructor
 ·intro h i hi;cases e:p i with
  |false=>rfl
  |true=>rw[qK.2 ⟨i,hi,e⟩]at h;cases h
 ·intro h;cases e:jv p n with
  |false=>rfl
  |true=>
   obtain⟨i,h1,h2⟩:=qK.1 e;rw[h i h1]at h2;cases h2
def cIX:C:=
 (vU [vO 4 0] ((vU [MV 6 0,O1 7 .len 6,vO 8 0] (C.block 0 (vU [BI 9 .lss 8 7] ((vW 9 0).seq ((C.block 1 (vU [MV 10 8,MV 5 10] (vU [MV 11 1,MV 12 0,MV 13 5,O2 14 (.idxA 1) 12
 13,LD 15 14,BI 16 .eql 11 15] (vV 16 (vX [MV 17 5,MV 4 17]))))).seq (vY [vP 18 .add 8 1,MV 8 18])))).loop)).seq (vX [MC 4 (i6 (-1))])))
def cIF(z:Nat)(m:Option Nat):C:=
 ((C.ops [MC 4 (i6 0)]).seq (((C.ops [MV 6 0,O1 7 .len 6,MC 8 (i6 0)]).seq (C.block 0 ((C.ops [BI 9 .lss 8 7]).seq ((C.cond (.t 9) C.skip (C.exit 0)).seq ((C.block 1 ((C.ops [MV 10 8,MV 5 10]).seq ((C.ops [MV 11 1,MV 12 0,MV 13 5,O2 14 (.idxA z) 12 13,O1 15 (.load m) 14,O2 16 .callv 11 15]).seq (C.cond (.t 16) ((C.ops [MV 17 5,MV 4 17]).seq C.ret) C.skip)))).seq (C.ops [BC 18 .add 8 (i6 1),MV 8 18])))).loop)).seq ((C.ops [MC 4 (i6 (-1))]).seq C.ret)))
def cCT(g:Nat):C:=((C.ops [MC 4 (.bool false)]).seq ((C.ops [MV 5 0,MV 6 1,O2 7 (.call g true) 5 6,BC 8 .geq 7 (i6 0),MV 4 8]).seq C.ret))
def cEQ:C:=
 (vU [MC 4 (.bool false)] ((vU [MV 6 0,O1 7 .len 6,MV 8 1,O1 9 .len 8,BI 10 .neq 7 9] (vV 10 (vX [MC 4 (.bool false)]))).seq ((vU [MV 11 0,O1 12 .len 11,vO 13 0] (C.block 0 (vU
 [BI 14 .lss 13 12] ((vW 14 0).seq ((C.block 1 (vU [MV 15 13,MV 5 15] (vU [MV 16 0,MV 17 5,O2 18 (.idxA 1) 16 17,LD 19 18,MV 20 1,MV 21 5,O2 22 (.idxA 1) 20 21,LD 23 22,BI 24
 .neq 19 23] (vV 24 (vX [MC 4 (.bool false)]))))).seq (vY [vP 25 .add 13 1,MV 13 25])))).loop)).seq (vX [MC 4 (.bool true)]))))
inductive At where
 |s (x:List UInt8)
 |i (n:Int)
 deriving DecidableEq
def At.v:At->AV
 | .s x=> .str x
 | .i n=> .int .i64 n
def At.k:At->Bool
 | .s _=>true
 | .i _=>false
theorem At.strip(a:At):a.v.strip=a.v:=by cases a<;>rfl
theorem At.flag(a:At):a.v.flag=true:=by cases a<;>rfl
theorem At.solid(a:At):a.v.solid=true:=by cases a<;>rfl
theorem At.eql{a b:At}(h:a.k=b.k):UC .eql a.v b.v=True∧Uy .eql a.v b.v= .bool (decide (a=b)):=by
 cases a<;>cases b<;>simp_all [At.v,At.k,UC,Uy]
theorem At.neq{a b:At}(h:a.k=b.k):UC .neq a.v b.v=True∧Uy .neq a.v b.v= .bool (!decide (a=b)):=by
 cases a<;>cases b<;>simp_all [At.v,At.k,UC,Uy]
set_option maxHeartbeats 1000000
theorem qCG{P:Program}{f:Nat}(hf:qI P f 19 0 [RV.tmp 4] cIX)(n:Nat)(g:Nat->At)(x:At)(h:wh)(hk: ∀i,i<n->x.k=(g i).k)(hn:n<=9223372036854775807):
  ACalls P f [.sl n (λi=> [(g i).v]),x.v] h (.int .i64 (qbD (λi=>decide (x=g i)) n 0)) h:=by
 have s1:=x.strip;have s2:=x.flag;refine acO hf ?_;simp (disch:=omega) only[cIX,go_sem];refine qn (T:=λi:Nat=>qO 19 [(0,.sl n (λi=> [(g i).v])),(1,x.v),(6,.sl n (λi=> [(g i).v])),(7,.int .i64 n),(8,.int .i64 i)]) (H:=λ_=>h) (inv:=λi=>i<=n∧ ∀j,j<i->decide (x=g j)=false) (m:=λi=>n-i) 0 ⟨nzl _,λj hj=>by omega⟩ (Wk.temps ?_) ?_
 ·exact tmq
 rintro i ⟨i1,i2⟩ K hK
 by_cases hi:i<n
 ·have k1:((i:Int)<n)=True:=wl;obtain⟨e1,e2⟩:=At.eql (hk i hi);have f1:=(g i).strip;have f2:=(g i).flag
  by_cases g0:x=g i
  ·rw[dqt g0]at e2;have hV:=kS hi i2 (by rw[dqt g0]);rw[hV];simp (disch:=omega) only[s1,s2,k1,e1,e2,f1,f2,go_sem]
   repeat' first|exact wc|with_reducible apply aiA|exact clz|fail
  ·rw[dqf g0]at e2;simp (disch:=omega) only[s1,s2,k1,e1,e2,f1,f2,go_sem]
   repeat' first|with_reducible apply aiA|exact clz|fail
   refine hK _ _ (i+1) ⟨hi,λj hj=> ?_⟩ om (Wk.temps ?_)
   ·by_cases e:j=i
    ·subst e;exact dqf g0
    ·exact i2 j om
   ·exact tmq
 ·have k1:((i:Int)<n)=False:=wm;have hV:=b6 (p:=λi=>decide (x=g i)) (n:=n) (λj hj=>i2 j om);rw[hV];simp (disch:=omega) only[s1,s2,k1,go_sem]
  repeat' first|exact wc|fail
theorem qfs{P:Program}{f z:Nat}{m:Option Nat}(hf:qI P f 19 0 [RV.tmp 4] (cIF z m))(n:Nat)(g:Nat->wj)(e:Nat->AV)(q:Nat)(first cap:wj)(p:Nat->Bool)(h:wh)
  (hg: ∀i,i<n->(g i).length=z∧kA (g i) 0 m∧cut (g i) 0 m=e i∧(e i).strip=e i∧(e i).flag=true) (hc: ∀i,i<n->ACalls P q (first++ [e i]++cap) h (.bool (p i)) h) (hn:n<=9223372036854775807):
  ACalls P f [.sl n g,.fn (.func q) first cap] h (.int .i64 (qbD p n 0)) h:=by
 refine acO hf ?_;simp (disch:=omega) only[cIF,go_sem];refine qn (T:=λi:Nat=>qO 19 [(0,.sl n g),(1,.fn (.func q) first cap),(6,.sl n g),(7,.int .i64 n),(8,.int .i64 i)]) (H:=λ_=>h) (inv:=λi=>i<=n∧ ∀j,j<i->p j=false) (m:=λi=>n-i) 0 ⟨nzl _,λj hj=>by omega⟩ (Wk.temps ?_) ?_
 ·exact tmq
 rintro i ⟨i1,i2⟩ K hK
 by_cases hi:i<n
 ·have k1:((i:Int)<n)=True:=wl;obtain⟨e1,e2,e3,e4,e5⟩:=hg i hi;have e1:=eqt e1;have e2:=eqt e2;have c:=hc i hi;cases g0:p i with
  |true=>
   rw[g0]at c;have hV:=kS hi i2 g0;rw[hV];simp (disch:=omega) only[k1,e1,e2,e3,e4,e5,go_sem]
   repeat' first|(refine qG c ?_;simp (disch:=omega) only[go_sem])|exact wc|with_reducible apply aiA|exact clz|fail
  |false=>
   rw[g0]at c;simp (disch:=omega) only[k1,e1,e2,e3,e4,e5,go_sem]
   repeat' first|(refine qG c ?_;simp (disch:=omega) only[go_sem])|with_reducible apply aiA|exact clz|fail
   refine hK _ _ (i+1) ⟨hi,λj hj=> ?_⟩ om (Wk.temps ?_)
   ·by_cases e:j=i
    ·subst e;exact g0
    ·exact i2 j om
   ·exact tmq
 ·have k1:((i:Int)<n)=False:=wm;have hV:=b6 (p:=p) (n:=n) (λj hj=>i2 j om);rw[hV];simp (disch:=omega) only[k1,go_sem]
  repeat' first|exact wc|fail
theorem qw6{P:Program}{f g:Nat}(hf:qI P f 9 0 [RV.tmp 4] (cCT g)){p:Nat->Bool}{n:Nat}{a b:AV}{h:wh}(ha:a.strip=a∧a.flag=true)(hb:b.strip=b∧b.flag=true)(hc:ACalls P g [a,b] h (.int .i64 (qbD p n 0)) h):
  ACalls P f [a,b] h (.bool (jv p n)) h:=by
 obtain⟨a1,a2⟩:=ha;obtain⟨b1,b2⟩:=hb;unfold jv;have e0:strips [a,b]= [a,b]:=by simp[strips,a1,b1]
 rw[<-e0]at hc;refine acO hf ?_;simp (disch:=omega) only[cCT,a1,a2,b1,b2,go_sem]
 repeat' first|(refine cA hc ?_ ?_;exact flk;simp (disch:=omega) only[go_sem])|exact wc|fail
theorem qB5{P:Program}{f:Nat}(hf:qI P f 26 0 [RV.tmp 4] cEQ)(n m:Nat)(g k:Nat->At)(h:wh)(hk: ∀i,i<n->i<m->(g i).k=(k i).k)(hn:n<=9223372036854775807)(hm:m<=9223372036854775807):
  ACalls P f [.sl n (λi=> [(g i).v]),.sl m (λi=> [(k i).v])] h (.bool (decide (n=m∧ ∀i,i<n->g i=k i))) h:=by
 by_cases hnm:n=m
 ·subst hnm;refine acO hf ?_;simp (disch:=omega) only[cEQ,go_sem];refine qn (T:=λi:Nat=>qO 26 [(0,.sl n (λi=> [(g i).v])),(1,.sl n (λi=> [(k i).v])),(12,.int .i64 n),(13,.int .i64 i)]) (H:=λ_=>h) (inv:=λi=>i<=n∧ ∀j,j<i->g j=k j) (m:=λi=>n-i) 0 ⟨nzl _,λj hj=>by omega⟩ (Wk.temps ?_) ?_
  ·exact tmq
  rintro i ⟨i1,i2⟩ K hK
  by_cases hi:i<n
  ·have k1:((i:Int)<n)=True:=wl;obtain⟨e1,e2⟩:=At.neq (hk i hi hi);have f1:=(g i).strip;have f2:=(g i).flag;have f3:=(k i).strip;have f4:=(k i).flag
   by_cases g0:g i=k i
   ·rw[dqt g0]at e2;simp (disch:=omega) only[k1,e1,e2,f1,f2,f3,f4,go_sem]
    repeat' first|with_reducible apply aiA|exact clz|fail
    refine hK _ _ (i+1) ⟨hi,λj hj=> ?_⟩ om (Wk.temps ?_)
    ·by_cases e:j=i
     ·subst e;exact g0
     ·exact i2 j om
    ·exact tmq
   ·rw[dqf g0]at e2;rw[dqf (λhc=>g0 (hc i hi))];simp (disch:=omega) only[k1,e1,e2,f1,f2,f3,f4,go_sem]
    repeat' first|exact wc|with_reducible apply aiA|exact clz|fail
  ·have k1:((i:Int)<n)=False:=wm;rw[dqt (λj hj=>i2 j om)];simp (disch:=omega) only[k1,go_sem]
   repeat' first|exact wc|fail
 ·have k1:((n:Int)=m)=False:=wm;rw[dqf (λhc=>hnm hc.1)];refine acO hf ?_;simp (disch:=omega) only[cEQ,k1,go_sem]
  repeat' first|exact wc|fail
end AF
end
section
open Go Go.Proofs AF
def z7:List Nat:= []
def qhn:C:=
 (vU [MC 2 (.bool false)] (vX [MV 3 0,O1 4 .slen 3,vP 5 .leq 4 16,MV 6 5,MG 7 6 true 0,P1 8 6 true (.call 89 true) 7,PF 9 6 8,MV 10 9,MG 11 10 true 0,P1 12 10 true (.call 210
 true) 11,MG 13 10 true 0,P1 14 10 true .slen 13,P2 15 10 true (.bin .eql) 12 14,PF 16 10 15,MV 2 16]))
theorem qep:qI Tryz.prog 136 17 0 [RV.tmp 2] qhn:=fi Tryz.f136 [] z7 []
def qjN:C:=
 (vU [MC 2 (.bool false)] (vX [MV 3 0,BC 4 .neq 3 (.str []),MV 5 4,MG 6 5 true 0,P1 7 5 true .slen 6,PC 8 5 true (.bin .leq) 7 (i6 16),PF 9 5 8,MV 10 9,MG 11 10 true 0,P1 12 10
 true (.call 253 true) 11,MG 13 10 true 0,P1 14 10 true .slen 13,P2 15 10 true (.bin .eql) 12 14,PF 16 10 15,MV 2 16]))
theorem qgt:qI Tryz.prog 181 17 0 [RV.tmp 2] qjN:=fi Tryz.f181 [] z7 []
def qva:C:=
 (vU [MC 2 (.bool false)] ((vU [MV 5 0,O1 6 .slen 5,vP 7 .lss 6 1,MV 8 7,vS 9 8 0,vQ 10 8 .slen 9,vT 11 8 (.bin .gtr) 10 (i6 64),PT 12 8 11,MV 13 12,vS 14 13 0,vQ 15 13 (.call
 162 true) 14,vT 16 13 (.bin .neq) 15 (i6 0),PT 17 13 16] (vV 17 (vX [MC 2 (.bool false)]))).seq ((vU [MV 18 0,OC 19 .sidx 18 (i6 0),O1 20 (.call 163 true) 19,MV 3 20] (vU [MV
 21 3,vP 22 .neq 21 1,MV 23 22,MG 24 23 true 3,PC 25 23 true (.bin .neq) 24 (i6 3),PF 26 23 25] (vV 26 (vX [MC 2 (.bool false)])))).seq ((vU [vO 4 0] (C.block 0 ((vU [MV 27 4,MV
 28 0,O1 29 .slen 28,BI 30 .lss 27 29] (vW 30 0)).seq ((C.block 1 (vU [MV 33 0,MV 34 4,O2 35 .sidx 33 34,O1 36 (.call 163 true) 35,vP 37 .gtr 36 4] (vV 37 (vX [MC 2 (.bool
 false)])))).seq (vZ 31 4))).loop)).seq (vX [MC 2 (.bool true)])))))
theorem qkT:qI Tryz.prog 89 38 0 [RV.tmp 2] qva:=fi Tryz.f89 [] z7 []
def qvZ:C:=
 (vU [vO 2 0] (vU [vO 3 0] ((vU [vO 4 0] (C.block 0 ((vU [MV 6 4,MV 7 0,O1 8 .slen 7,BI 9 .lss 6 8] (vW 9 0)).seq ((C.block 1 (vU [MV 12 0,MV 13 4,O2 14 .sidx 12 13,O1 15 (.call
 163 true) 14,MV 5 15] (vU [MV 16 5,vP 17 .eql 16 1,MV 18 17,vS 19 18 5,vT 20 18 (.bin .eql) 19 (i6 3),PT 21 18 20] (vV 21 (vZ 22 3))))).seq (vZ 10 4))).loop)).seq (vX [MV 24
 3,MV 2 24]))))
theorem qxN:qI Tryz.prog 210 25 0 [RV.tmp 2] qvZ:=fi Tryz.f210 [] z7 []
def qwi:C:=
 (vU [vO 2 0] (vU [vO 3 0] ((vU [MV 6 0,O1 7 .slen 6,vO 8 0] (C.block 0 (vU [BI 9 .lss 8 7] ((vW 9 0).seq ((C.block 1 (vU [MV 10 8,MV 4 10] (vU [MV 11 0,MV 12 4,O2 13 .sidx 11
 12,O1 14 (.call 220 true) 13,MV 5 14] (vU [MV 15 5,vP 16 .eql 15 1,MV 17 16,vS 18 17 5,vT 19 17 (.bin .eql) 18 (i6 3),PT 20 17 19] (vV 20 (vZ 21 3)))))).seq (vY [vP 23 .add 8
 1,MV 8 23])))).loop)).seq (vX [MV 24 3,MV 2 24]))))
theorem qx6:qI Tryz.prog 253 25 0 [RV.tmp 2] qwi:=fi Tryz.f253 [] z7 []
def qsb:C:=
 (vU [vO 2 0] ((vU [MV 6 0,O1 7 .slen 6,vP 8 .gtr 7 65536] (vV 8 (vX [vO 2 4]))).seq (vU [MV 9 0,O1 10 (.call 238 true) 9,MV 3 10] ((vU [vO 4 0] (C.block 0 ((vU [MV 11 4,MV 12
 0,O1 13 .slen 12,BI 14 .lss 11 13] (vW 14 0)).seq ((C.block 1 (vU [MV 17 0,MV 18 4,O2 19 .sidx 17 18,O1 20 (.call 163 true) 19,MV 5 20] (vU [MV 21 5,vP 22 .eql 21 0,MV 23 22,vS
 24 23 5,vT 25 23 (.bin .eql) 24 (i6 2),vS 26 23 25,MG 27 26 true 3,MG 28 26 true 4,P2 29 26 true (.idxA 1) 27 28,P1 30 26 true (.load none) 29,P1 31 26 true (.un UnOp.not)
 30,QF 32 23 false 26 31,PT 33 23 32] (vV 33 (vX [vO 2 11]))))).seq (vZ 15 4))).loop)).seq (vX [vO 2 0])))))
theorem qq9:qI Tryz.prog 162 34 0 [RV.tmp 2] qsb:=fi Tryz.f162 [] z7 []
def qvV:C:=
 (vU [vO 2 0] ((C.block 0 (vU [MV 4 0,BC 5 .geq 4 (.int .u8 97),MV 6 5,MG 7 6 true 0,PC 8 6 true (.bin .leq) 7 (.int .u8 122),PF 9 6 8,MV 10 9,vS 11 10 0,vT 12 10 (.bin .geq) 11
 (.int .u8 65),vS 13 10 12,MG 14 13 true 0,PC 15 13 true (.bin .leq) 14 (.int .u8 90),QF 16 10 false 13 15,PT 17 10 16,MV 3 17] (C.cond (.t 3) (vX [vO 2 1]) (vU [MV 19 0,BC 20
 .eql 19 (.int .u8 94),MV 21 20,vS 22 21 0,vT 23 21 (.bin .eql) 22 (.int .u8 126),PT 24 21 23,MV 25 24,vS 26 25 0,vT 27 25 (.bin .eql) 26 (.int .u8 37),PT 28 25 27,MV 18 28]
 (C.cond (.t 18) (vX [vO 2 2]) (vU [MV 30 0,BC 31 .geq 30 (.int .u8 48),MV 32 31,MG 33 32 true 0,PC 34 32 true (.bin .leq) 33 (.int .u8 57),PF 35 32 34,MV 29 35] (C.cond (.t 29)
 (vX [vO 2 3]) (vU [MV 37 0,BC 38 .eql 37 (.int .u8 39),MV 36 38] (C.cond (.t 36) (vX [vO 2 4]) (vU [MV 40 0,BC 41 .eql 40 (.int .u8 46),MV 42 41,vS 43 42 0,vT 44 42 (.bin .eql)
 43 (.int .u8 44),PT 45 42 44,MV 46 45,vS 47 46 0,vT 48 46 (.bin .eql) 47 (.int .u8 59),PT 49 46 48,MV 50 49,vS 51 50 0,vT 52 50 (.bin .eql) 51 (.int .u8 58),PT 53 50 52,MV 54
 53,vS 55 54 0,vT 56 54 (.bin .eql) 55 (.int .u8 33),PT 57 54 56,MV 58 57,vS 59 58 0,vT 60 58 (.bin .eql) 59 (.int .u8 63),PT 61 58 60,MV 62 61,vS 63 62 0,vT 64 62 (.bin .eql)
 63 (.int .u8 40),PT 65 62 64,MV 66 65,vS 67 66 0,vT 68 66 (.bin .eql) 67 (.int .u8 41),PT 69 66 68,MV 70 69,vS 71 70 0,vT 72 70 (.bin .eql) 71 (.int .u8 45),PT 73 70 72,MV 39
 73] (C.cond (.t 39) (vX [vO 2 5]) (vU [MV 75 0,BC 76 .eql 75 (.int .u8 32),MV 74 76] (vV 74 (vX [vO 2 6])))))))))))))).seq (vX [vO 2 0])))
theorem qxI:qI Tryz.prog 163 77 0 [RV.tmp 2] qvV:=fi Tryz.f163 [] z7 []
def qv4:C:=
 (vU [vO 2 0] ((C.block 0 (vU [MV 4 0,BC 5 .geq 4 (.int .u8 97),MV 6 5,MG 7 6 true 0,PC 8 6 true (.bin .leq) 7 (.int .u8 122),PF 9 6 8,MV 10 9,vS 11 10 0,vT 12 10 (.bin .geq) 11
 (.int .u8 65),vS 13 10 12,MG 14 13 true 0,PC 15 13 true (.bin .leq) 14 (.int .u8 90),QF 16 10 false 13 15,PT 17 10 16,MV 3 17] (C.cond (.t 3) (vX [vO 2 1]) (vU [MV 19 0,BC 20
 .eql 19 (.int .u8 94),MV 21 20,vS 22 21 0,vT 23 21 (.bin .eql) 22 (.int .u8 126),PT 24 21 23,MV 25 24,vS 26 25 0,vT 27 25 (.bin .eql) 26 (.int .u8 37),PT 28 25 27,MV 18 28]
 (C.cond (.t 18) (vX [vO 2 2]) (vU [MV 30 0,BC 31 .geq 30 (.int .u8 48),MV 32 31,MG 33 32 true 0,PC 34 32 true (.bin .leq) 33 (.int .u8 57),PF 35 32 34,MV 29 35] (C.cond (.t 29)
 (vX [vO 2 3]) (vU [MV 37 0,BC 38 .eql 37 (.int .u8 39),MV 36 38] (C.cond (.t 36) (vX [vO 2 4]) (vU [MV 40 0,BC 41 .eql 40 (.int .u8 32),MV 39 41] (C.cond (.t 39) (vX [vO 2 6])
 (vU [MV 43 0,BC 44 .neq 43 (.int .u8 0),MV 45 44,MG 46 45 true 0,PN 47 45 true (.call 281 true) [.c (.str [46,44,59,58,33,63,40,41,45]),.t 46],PC 48 45 true (.bin .geq) 47 (i6
 0),PF 49 45 48,MV 42 49] (vV 42 (vX [vO 2 5])))))))))))))).seq (vX [vO 2 0])))
theorem qxS:qI Tryz.prog 220 50 0 [RV.tmp 2] qv4:=fi Tryz.f220 [] z7 []
def qwe:C:=
 (vU [ON 2 (.nilo 0 1 4) []] (vU [⟨some 5,none,.bslc 1 1 0 4 [.bool false] [],[]⟩,MV 3 5] ((vU [vO 4 0] (C.block 0 ((vU [MV 6 4,MV 7 0,O1 8 .slen 7,BI 9 .lss 6 8] (vW 9 0)).seq
 ((C.block 1 (vY [MV 12 3,MV 13 0,MV 14 4,O2 15 .sidx 13 14,O1 16 (.call 163 true) 15,vP 17 .eql 16 2,MV 18 17,MG 19 18 true 4,PC 20 18 true (.bin .gtr) 19 (i6 0),PF 21 18 20,MV
 22 21,MG 23 22 true 0,MG 24 22 true 4,PC 25 22 true (.bin .sub) 24 (i6 1),P2 26 22 true .sidx 23 25,P1 27 22 true (.call 163 true) 26,PC 28 22 true (.bin .eql) 27 (i6 1),MG 29
 22 true 28,vS 30 29 3,vS 31 29 4,vT 32 29 (.bin .sub) 31 (i6 1),vR 33 29 (.idxA 1) 30 32,v8 34 29 33,QT 35 22 true 29 34,PF 36 22 35,⟨some 37,none,.bslc 2 1 1 4 [.bool false]
 [(0,1)],[.t 36]⟩,O2 38 (.app 3 1 4 1) 12 37,MV 3 38])).seq (vZ 10 4))).loop)).seq (vX [MV 39 3,MV 2 39]))))
theorem qx2:qI Tryz.prog 238 40 4 [RV.tmp 2] qwe:=fi Tryz.f238 [2,5,37,38] z7 []
def qwp:C:=
 (vU [vO 4 0] (vX [MV 5 0,MV 6 1,O2 7 (.call 319 true) 5 6,MV 4 7]))
theorem qye:qI Tryz.prog 281 8 0 [RV.tmp 4] qwp:=fi Tryz.f281 [] z7 []
def qjM:C:=
 (vU [MC 2 (.bool false)] ((vU [MV 4 0,BC 5 .eql 4 (.str []),MV 6 5,vS 7 6 0,vQ 8 6 .slen 7,vT 9 6 (.bin .gtr) 8 (i6 64),PT 10 6 9,MV 11 10,vS 12 11 0,vQ 13 11 (.call 219 true)
 12,vT 14 11 (.bin .neq) 13 (i6 0),PT 15 11 14] (vV 15 (vX [MC 2 (.bool false)]))).seq ((vU [MV 16 0,OC 17 .sidx 16 (i6 0),O1 18 (.call 220 true) 17,MV 3 18] (vU [MV 19 3,vP 20
 .neq 19 1,MV 21 20,MG 22 21 true 3,PC 23 21 true (.bin .neq) 22 (i6 3),PF 24 21 23] (vV 24 (vX [MC 2 (.bool false)])))).seq (vX [MV 25 0,O1 26 .s2b 25,OC 27 (.call 221 true) 26
 (.fn (Fn.func 222) [] []),O1 28 (.un UnOp.not) 27,MV 2 28]))))
theorem qgs:qI Tryz.prog 145 29 0 [RV.tmp 2] qjM:=fi Tryz.f145 [] z7 []
def qse:C:=
 (vU [⟨some 2,none,.alloc 0 28 [i6 0],[]⟩] ((vU [MV 6 0,O1 7 .slen 6,vP 8 .gtr 7 65536] (vV 8 (vX [⟨none,none,.store 1,[.t 2,.c (i6 4)]⟩]))).seq ((vU [MV 9 0,O1 10 (.call 280
 true) 9] (C.block 0 (C.range (.t 10) [11,12] (vY [MV 4 12]) (C.block 1 (vU [MV 13 4,OC 14 .sidx 13 (i6 0),O1 15 (.call 220 true) 14,MV 5 15] (vU [MV 16 5,vP 17 .eql 16 0,MV 18
 17,vS 19 18 5,vT 20 18 (.bin .eql) 19 (i6 2),PT 21 18 20] (vV 21 (vX [⟨none,none,.store 1,[.t 2,.c (i6 11)]⟩])))))))).seq (vX [⟨none,none,.store 1,[.t 2,.c (i6 0)]⟩]))))
theorem qrd:qI Tryz.prog 219 22 1 [RV.cell 2 none] qse:=fi Tryz.f219 [2] z7 []
def qv5:C:=
 (vU [MC 4 (.bool false)] (vX [MV 5 0,MV 6 1,O2 7 (.call 282 true) 5 6,vP 8 .geq 7 0,MV 4 8]))
theorem qxT:qI Tryz.prog 221 9 0 [RV.tmp 4] qv5:=fi Tryz.f221 [] z7 []
def qv6:C:=
 (vU [MC 2 (.bool false)] (vU [MV 4 0,O1 5 (.call 220 true) 4,MV 3 5] (vX [MV 6 3,vP 7 .eql 6 5,MV 8 7,vS 9 8 3,vT 10 8 (.bin .eql) 9 (i6 6),PT 11 8 10,MV 2 11])))
theorem qxU:qI Tryz.prog 222 12 0 [RV.tmp 2] qv6:=fi Tryz.f222 [] z7 []
def qwo:C:=
 (vU [O1 1 (.box 0 9) 0,MC 2 .nilfn] (vX [O1 3 (.mkfn (Fn.func 335) 0) 1,MV 2 3]))
theorem qyd:qI Tryz.prog 280 4 1 [RV.tmp 2] qwo:=fi Tryz.f280 [1] z7 []
def qwq:C:=
 (vU [vO 4 0] ((vU [MV 6 0,O1 7 .len 6,vO 8 0] (C.block 0 (vU [BI 9 .lss 8 7] ((vW 9 0).seq ((C.block 1 (vU [MV 10 8,MV 5 10] (vU [MV 11 1,MV 12 0,MV 13 5,O2 14 (.idxA 1) 12
 13,LD 15 14,O2 16 .callv 11 15] (vV 16 (vX [MV 17 5,MV 4 17]))))).seq (vY [vP 18 .add 8 1,MV 8 18])))).loop)).seq (vX [MC 4 (i6 (-1))])))
theorem qyf:qI Tryz.prog 282 19 0 [RV.tmp 4] qwq:=fi Tryz.f282 [] z7 []
def qso:C:=
 (vU [MC 4 (.bool false)] (vX [MV 5 0,O1 6 .slen 5,MV 7 1,O1 8 .slen 7,BI 9 .geq 6 8,MV 10 9,MG 11 10 true 0,MG 12 10 true 0,P1 13 10 true .slen 12,MG 14 10 true 1,P1 15 10 true
 .slen 14,P2 16 10 true (.bin .sub) 13 15,P2 17 10 true (.sslc true false) 11 16,MG 18 10 true 1,P2 19 10 true (.bin .eql) 17 18,PF 20 10 19,MV 4 20]))
theorem qro:qI Tryz.prog 356 21 0 [RV.tmp 4] qso:=fi Tryz.f356 [] z7 []
def qwy:C:=
 (vU [vO 3 0] (vU [vO 4 1] (C.block 0 ((vU [MV 5 4,LD 6 1,O1 7 .slen 6,BI 8 .leq 5 7] (vW 8 0)).seq ((C.block 1 ((vU [MV 11 4,LD 12 1,O1 13 .slen 12,BI 14 .lss 11 13,MV 15 14,P1
 16 15 true (.load none) 1,MG 17 15 true 4,P2 18 15 true .sidx 16 17,P1 19 15 true (.call 220 true) 18,PC 20 15 true (.bin .eql) 19 (i6 2),PF 21 15 20,MV 22 21,P1 23 22 true
 (.load none) 1,MG 24 22 true 3,MG 25 22 true 4,PN 26 22 true (.call 336 true) [.t 23,.t 24,.t 25],PF 27 22 26] (vV 27 (C.exit 1))).seq ((vU [MV 28 0,MV 29 3,LD 30 1,MV 31 3,MV
 32 4,ON 33 (.sslc true true) [.t 30,.t 31,.t 32],ON 34 .callv [.t 28,.t 29,.t 33],O1 35 (.un UnOp.not) 34] (vV 35 C.ret)).seq (vY [MV 36 4,MV 3 36])))).seq (vZ 9 4))).loop)))
theorem qyp:qI Tryz.prog 335 37 0 [] qwy:=fi Tryz.f335 [] z7 []
def qwz:C:=
 (vU [MC 6 (.bool false)] (vX [MV 7 0,MV 8 1,O2 9 .sidx 7 8,O1 10 (.call 220 true) 9,vP 11 .eql 10 1,MV 12 11,MG 13 12 true 2,MG 14 12 true 1,P2 15 12 true (.bin .gtr) 13 14,PF
 16 12 15,MV 6 16]))
theorem qyq:qI Tryz.prog 336 17 0 [RV.tmp 6] qwz:=fi Tryz.f336 [] z7 []
end
section
namespace HY
def qez(n:Int):Int:=
 if (97<=n∧n<=122)∨(65<=n∧n<=90) then 1
 else if n=94∨n=126∨n=37 then 2
 else if 48<=n∧n<=57 then 3
 else if n=39 then 4
 else if n=32 then 6
 else if n=46∨n=44∨n=59∨n=58∨n=33∨n=63∨n=40∨n=41∨n=45 then 5
 else 0
def kind(b:UInt8):Int:=qez b.toNat
def ch(s:List UInt8)(i:Nat):UInt8:=s.getD i 0
theorem j8(s:List UInt8)(i:Nat):(s[i]?).getD 0=ch s i:=by rw[ch,gdqA]
def gG(frm:Nat)(cur:List UInt8):List UInt8->List (Nat×List UInt8)
 | []=> [(frm,cur)]
 |c::r=>if kind c=2∧kind (ch cur 0)=1 then gG frm (cur++ [c]) r else (frm,cur)::gG (frm+cur.length) [c] r
def zQ:List UInt8->List (Nat×List UInt8)
 | []=> []
 |c::r=>gG 0 [c] r
def qe6(s:List UInt8):List (List UInt8):=(zQ s).map (·.2)
theorem qoj(frm:Nat)(cur r:List UInt8):gG frm cur r≠ []:=by
 induction r generalizing frm cur with
 |nil=>simp[gG]
 |cons c r ih=>simp only[gG];split;exact ih _ _;simp
theorem qkj{frm:Nat}{cur r:List UInt8}(hc:cur≠ []): ∀x∈gG frm cur r,x.2≠ []:=by
 induction r generalizing frm cur with
 |nil=>intro x hx;simp[gG]at hx;subst hx;exact hc
 |cons c r ih=>
  intro x hx;simp only[gG]at hx;split at hx
  ·exact ih (by simp) x hx
  ·rcases List.mem_cons.1 hx with rfl|hx
   ·exact hc
   ·exact ih (by simp) x hx
theorem qsH{s:List UInt8}: ∀x∈qe6 s,x≠ []:=by
 cases s with
 |nil=>intro x hx;simp[qe6,zQ]at hx
 |cons c r=>
  intro x hx;simp only[qe6,zQ,List.mem_map]at hx;obtain⟨y,hy,rfl⟩:=hx;exact qkj (by simp) y hy
def zV(s:List UInt8):Nat->Bool
 |0=>false
 |i+1=>decide (kind (ch s (i+1))=2)&&(decide (kind (ch s i)=1)||zV s i)
def qbw(s:List UInt8):List Bool:=(List.range s.length).map (zV s)
theorem qc4{s:List UInt8}{i:Nat}(h:i<s.length):(qbw s).getD i false=zV s i:=by simp[qbw,gdqA,h]
def qbr(s:List UInt8)(f i:Nat):Prop:=f<i∧(decide (kind (ch s (i-1))=1)||zV s (i-1))=decide (kind (ch s f)=1)
theorem qbs{s:List UInt8}{f i:Nat}(h:qbr s f i):zV s i=(decide (kind (ch s i)=2)&&decide (kind (ch s f)=1)):=by
 obtain⟨h1,h2⟩:=h;cases i with
 |zero=>omega
 |succ i=>simp only[zV];rw[<-h2];rfl
theorem qev(s:List UInt8):qbr s 0 1:=⟨om,by simp[zV]⟩
theorem qk3{s:List UInt8}{f i:Nat}(h:qbr s f i)(hr:zV s i=true):qbr s f (i+1):=by
 have h3:=qbs h;rw[hr]at h3;refine⟨by have:=h.1;omega,?_⟩;rw[Nat.add_sub_cancel,hr,Bool.or_true];symm at h3;simp only[Bool.and_eq_true]at h3;exact h3.2.symm
theorem qhQ{s:List UInt8}{f i:Nat}(h:qbr s f i)(hr:zV s i=false):qbr s i (i+1):=
 ⟨om,by rw[Nat.add_sub_cancel,hr,Bool.or_false]⟩
def zY(c:List UInt8):Bool:=decide (kind (ch c 0)=0)||decide (kind (ch c 0)=2)
def zN(s:List UInt8):Int:=if 65536<s.length then 4 else if (qe6 s).any zY then 11 else 0
def kC(s:List UInt8):Bool:=
 decide (0<s.length)&&decide (s.length<=64)&&decide (zN s=0)&&(decide (kind (ch s 0)=1)||decide (kind (ch s 0)=3))&& !(s.any λc=>decide (kind c=5)||decide (kind c=6))
end HY
end
section
namespace HY
def qrv(s p:List UInt8):Bool:=decide (s.drop (s.length-p.length)=p)
def U2(s:List UInt8)(i:Nat):Bool:=decide (kind (ch s i)=0)||(decide (kind (ch s i)=2)&& !zV s i)
end HY
end
section
open Go Go.Proofs AF HY
namespace HY
def strs(l:List (List UInt8)):AV:= .sl l.length λi=> [.str (l.getD i [])]
theorem qtP {P : Program} {f : FuncId} {fn : Func} (h : P.funcs[f]? = some fn) (h1 : fn.body.isSome = true) (h2 : (fn.name != "runtime.NumGoroutine") = true) : okF P f = true := by
 unfold okF;rw[h];simp[h1,h2]
theorem qFw(s:List UInt8)(c:Int)(h:wh):ACalls Tryz.prog 319 [.str s,.int .u8 c] h (.int .i64 (Go.Lib.indexByte s c.toNat.toUInt8)) h:=by
 refine⟨qtP Tryz.func319 (by kernel_rfl) (by kernel_rfl),λw σ xs H hv=> ?_⟩;obtain⟨x,y,rfl,hx,hy⟩:=hv.two;rw[kc hx,zP hy];refine (callsIn_wide.2 (qoZ ⟨s.toArray⟩ c w)).mono ?_;rintro e w' ⟨rfl,rfl⟩;exact⟨_,σ,rfl,H,.imm .int,Ext.refl _ _⟩
theorem qFu(s:List UInt8)(c:Int)(h:wh):ACalls Tryz.prog 281 [.str s,.int .u8 c] h (.int .i64 (Go.Lib.indexByte s c.toNat.toUInt8)) h:=by
 refine qE qye (by simp) ?_;simp only[lco,lnl,Nat.reduceAdd,Nat.reduceSub,List.replicate,lca,lna,lan];simp (disch:=omega) only[qwp,go_sem,qp,dvP,mdP]
 repeat' first|(refine qJ (qFw s c _) ?_ ?_;exact flk;simp (disch:=omega) only[go_sem,qp,dvP,mdP])|exact wc|fail
theorem qlV: ∀n:Fin 256,(0<=Go.Lib.indexByte [46,44,59,58,33,63,40,41,45] (UInt8.ofNat n.val))↔(n.val=46∨n.val=44∨n.val=59∨n.val=58∨n.val=33∨n.val=63∨n.val=40∨n.val=41∨n.val=45):=by decide+kernel
theorem qD7(n:Int)(h:wh)(n0:0<=n)(n1:n<=255):ACalls Tryz.prog 220 [.int .u8 n] h (.int .i64 (qez n)) h:=by
 obtain⟨m,rfl⟩: ∃m:Nat,n=m:=⟨n.toNat,om⟩
 have hp:=qlV ⟨m,om⟩;simp only at hp;obtain⟨q,hq⟩:=wg (Go.Lib.indexByte [46,44,59,58,33,63,40,41,45] (UInt8.ofNat m))
 rw[<-hq]at hp;have hc: ∀h,ACalls Tryz.prog 281 [.str [46,44,59,58,33,63,40,41,45],.int .u8 (m:Int)] h (.int .i64 q) h:=λh=>by rw[hq];exact qFu _ _ h
 refine qE qxS (by simp) ?_;simp only[lco,lnl,Nat.reduceAdd,Nat.reduceSub,List.replicate,lca,lna,lan];simp (disch:=omega) only[qv4,go_sem,qp,dvP,mdP]
 repeat' first|(refine qM (λe=>⟨?_,hc _⟩) ?_;exact flk;simp (disch:=omega) only[go_sem,qp,dvP,mdP])|(apply qh;exact rvk;simp only[go_sem];apply qg)|(with_reducible first|intro _|apply aiA)
 all_goals first
  |omega
  |(unfold qez;(repeat' split)<;>omega)
theorem qD9(n:Int)(h:wh):ACalls Tryz.prog 163 [.int .u8 n] h (.int .i64 (qez n)) h:=by
 refine qE qxI (by simp) ?_;simp only[lco,lnl,Nat.reduceAdd,Nat.reduceSub,List.replicate,lca,lna,lan];simp (disch:=omega) only[qvV,go_sem,qp,dvP,mdP]
 repeat' first|(apply qh;exact rvk;simp only[go_sem];apply qg)|(with_reducible first|intro _|apply aiA)
 all_goals first
  |omega
  |grind [qez]
end HY
end
section
open Go Go.Proofs AF HY
namespace HY
theorem _root_.AF.LowI.ret{h hh:wh}{ts:wj}{L:LInfo}(s:LS)(hl:LowI h hh)(hts: ∀c∈ts,qT (h.length+1) c=true):
  (hh++ [AObj.lp s ts L]).length=(h++ [AObj.lp .ready ts L]).length∧ ∀o∈hh++ [AObj.lp s ts L],o∈h++ [AObj.lp .ready ts L]∨lowO (h++ [AObj.lp .ready ts L]).length o:=by
 refine⟨by simp[hl.1],λo ho=> ?_⟩;rw[lap,List.length_singleton];rcases List.mem_append.1 ho with ho|ho
 ·rcases hl.2 o ho with h1|h1
  ·exact .inl (List.mem_append_left _ h1)
  ·exact .inr h1.2
 ·rw[List.mem_singleton]at ho;subst ho;exact .inr hts
theorem qg8(b:UInt8):0<=((b.toNat:Nat):Int)∧((b.toNat:Nat):Int)<=255:=by
 have:=b.toNat_lt
 omega
theorem qbI(b:UInt8)(h:wh):ACalls Tryz.prog 220 [.int .u8 (b.toNat:Int)] h (.int .i64 (kind b)) h:=qD7 _ h (qg8 b).1 (qg8 b).2
theorem qbi(b:UInt8)(h:wh):ACalls Tryz.prog 163 [.int .u8 (b.toNat:Int)] h (.int .i64 (kind b)) h:=qD9 _ h
theorem qb9{s:List UInt8}{f i:Nat}(hf:f<i)(hi:i<s.length):gG f ((s.drop f).take (i-f)) (s.drop i)=if kind (ch s i)=2∧kind (ch s f)=1 then gG f ((s.drop f).take (i+1-f)) (s.drop (i+1)) else (f,(s.drop f).take (i-f))::gG i ((s.drop i).take (i+1-i)) (s.drop (i+1)):=by
 have e1:s.drop i=ch s i::s.drop (i+1):=by rw[List.drop_eq_getElem_cons hi];simp[ch,hi]
 have e2:ch ((s.drop f).take (i-f)) 0=ch s f:=by simp[ch,gdqA,List.getElem?_take,show 0<i-f by omega]
 have e3:(s.drop f).take (i+1-f)=(s.drop f).take (i-f)++ [ch s i]:=by
  rw[show i+1-f=(i-f)+1 by omega,List.take_add_one,List.getElem?_drop,show f+(i-f)=i by omega];simp[ch,gdqA,hi]
 have e4:f+((s.drop f).take (i-f)).length=i:=by rw[List.length_take,List.length_drop];omega
 have e5:(s.drop i).take (i+1-i)= [ch s i]:=by rw[e1,show i+1-i=1 by omega];rfl
 rw[e5,e1];simp only[gG,e2,e4,e3]
end HY
end
section
open Go Go.Proofs AF HY
namespace HY
def qb7(l:List Bool):AV:= .sl l.length λi=> [.bool (l.getD i false)]
theorem qrL{cs:wj}{n m k:Nat}{f:Nat->wj}{fz:Nat->Bool}{h:wh}(e:cs.length=m)(ek:k=m)(hf: ∀i c,cs[i]? =some c->f i= [c])(hr: ∀c∈cs,rei fz h (n+1) c=c):VLe (.sl m λi=>((List.drop i cs).take 1).map (rei fz h (n+1))) (.sl k f):=by
 subst e ek;refine qvo rfl (λi hi=> ?_);rw[List.drop_eq_getElem_cons hi,hf i cs[i] (zz hi)];show [rei fz h (n+1) cs[i]]=_;rw[hr cs[i] (List.getElem_mem hi)]
def jl(l:List (List UInt8)):wj:=l.map .str
theorem jh(l:List (List UInt8)):(jl l).length=l.length:=by simp[jl]
theorem qf0{l:List (List UInt8)}{n m:Nat}{fz:Nat->Bool}{h:wh}(e:l.length=m):VLe (.sl m λi=>((List.drop i (jl l)).take 1).map (rei fz h (n+1))) (strs l):=by
 subst e;refine qrL (jh l) rfl (λi c hc=> ?_) (λc hc=> ?_)
 ·unfold jl at hc;rw[List.getElem?_map,Option.map_eq_some_iff]at hc;obtain⟨x,hx,rfl⟩:=hc;simp[gdqA,hx]
 ·unfold jl at hc;rw[List.mem_map]at hc;obtain⟨x,_,rfl⟩:=hc;rfl
def eE(s:List UInt8)(i:Nat):wj:=(List.range i).map λj=>AV.bool (zV s j)
theorem qcm(s:List UInt8)(i:Nat):eE s (i+1)=eE s i++ [.bool (zV s i)]:=by simp[eE,List.range_succ]
theorem qbd(s:List UInt8)(i:Nat):(eE s i).length=i:=by simp[eE]
theorem t95(s:List UInt8)(h:wh)(hs:s.length<=1000000000):ACalls Tryz.prog 238 [.str s] h (qb7 (qbw s)) h:=by
 refine qE qx2 (by simp) ?_;simp only[lco,lnl,Nat.reduceAdd,Nat.reduceSub,List.replicate,lca,lna,lan];simp (disch:=omega) only[qwe,zk,go_sem,qp,dvP,mdP]
 all_goals first
  |omega
  |(simp;done)
  |skip
 refine qn (T:=λi:Nat×Nat×AObj=>qO 40 [(0,.str s),(3,.osl (h.length+1) i.2.1 1 0 i.1),(4,.int .i64 i.1)]) (H:=λi=>h++ [.emp 1,.mem i.2.1 4 (eE s i.1),i.2.2,.emp 0])
  (inv:=λi=>i.1<=s.length∧qy [i.2.2] 0=true) (m:=λi=>s.length-i.1) (0,1,.emp 0) ⟨by simp only;omega,rfl⟩ (Wk.temps ?_) ?_
 ·(simp only[qO,List.foldl,go_sem,qf,qc,qa,qe];try exact we)
 ·rintro⟨i,v,O⟩ ⟨i1,i2⟩ K hK;simp only at i1 i2 hK;have i2': ∀m,qy (O::m) 0=true:=λ_=>i2
  have eL:=qbd s i;have eT:List.take i (eE s i)=eE s i:=ltl om
  by_cases hi:i<s.length
  ·cases i with
   |zero=>
    have hz:(((0:Nat):Int)<(s.length:Int))=True:=wl;have hz0:((0:Nat):Int)=0:=rfl;have hlt:((0:Int)<0)=False:=wm;have hc0:eE s 0= []:=rfl;have hz1:((0:Int)<(s.length:Int))=True:=wl;have hR:zV s 0=false:=rfl
    by_cases hk0:kind (ch s 0)=2
    all_goals
     simp (disch:=omega) only[qO,List.foldl,j8,i2',zk,hz0,hlt,hc0,hz1,hk0,go_sem,qp,dvP,mdP]
     repeat' first|(refine qj ((.int .i64 0)) ?_;simp (disch:=omega) only[j8,i2',zk,hz0,hlt,hc0,hk0,go_sem,qp,dvP,mdP])|(refine qJ (qbi _ _) ?_ ?_;exact flk;simp (disch:=omega) only[j8,i2',zk,hz0,hlt,hc0,hk0,go_sem,qp,dvP,mdP])|(with_reducible first|intro _|apply aiA)|exact clz|fail
     refine hK _ _ (0+1,v+1,.mem (qo (some O)+1) 4 [.bool (zV s 0)]) ⟨by simp only;omega,rfl⟩ (by simp only;omega) ?_;rw[qcm];simp only[hR,hc0,lna];refine Wk.temps ?_
     (simp only[qO,List.foldl,go_sem,qf,qc,qa,qe];try exact we)
   |succ i=>
    have hx:(((i+1:Nat):Int)-1).toNat=i:=by omega
    have hg:(eE s (i+1))[i]? =some (.bool (zV s i)):=by simp[eE]
    have hp:(0<((i+1:Nat):Int))=True:=wl;simp (disch:=omega) only[qO,List.foldl,j8,i2',eL,eT,zk,hx,hg,hp,go_sem,qp,dvP,mdP]
    repeat' first|(refine qJ (qbi _ _) ?_ ?_;exact flk;simp (disch:=omega) only[j8,i2',eL,eT,zk,hx,hg,hp,go_sem,qp,dvP,mdP])|(refine qM (λe=>⟨?_,qbi _ _⟩) ?_;exact flk;simp (disch:=omega) only[j8,i2',eL,eT,zk,hx,hg,hp,go_sem,qp,dvP,mdP])|(apply qb;exact rvk;simp only[go_sem])|(with_reducible first|intro _|apply aiA)
    all_goals first
     |omega
     |(simp;done)
     |skip
    refine hK _ _ (i+1+1,v+1,.mem (qo (some O)+1) 4 [.bool (zV s (i+1))]) ⟨by simp only;omega,rfl⟩ (by simp only;omega) ?_;rw[qcm s (i+1)];simp only[zV];refine Wk.temps ?_
    (simp only[qO,List.foldl,go_sem,qf,qc,qa,qe];try exact we)
  ·have e:i=s.length:=by omega
   subst e;simp (disch:=omega) only[qO,List.foldl,eL,go_sem,qp,dvP,mdP]
   repeat' first|(apply qb;exact rvk;simp only[go_sem])|(with_reducible first|intro _|apply aiA)
   all_goals first
    |omega
    |skip
   have hrl:(qbw s).length=s.length:=by simp[qbw]
   unfold qb7;rw[ipo om];refine qrL (qbd s _) hrl (λi c hc=> ?_) (λc hc=> ?_)
   ·have hi:=(lgs.1 hc).1;rw[qbd]at hi;rw[qc4 hi];simp[eE,hi]at hc;rw[hc]
   ·simp[eE]at hc;obtain⟨x,_,rfl⟩:=hc;rfl
end HY
end
section
open Go Go.Proofs AF HY
namespace HY
theorem qcu(s:List UInt8){f i:Nat}(h:f<=i)(hi:i<s.length):(s.drop f).take (i+1-f)=(s.drop f).take (i-f)++ [ch s i]:=by
 rw[show i+1-f=(i-f)+1 by omega,List.take_add_one,List.getElem?_drop,show f+(i-f)=i by omega];simp[ch,gdqA,hi]
theorem qrC(s:List UInt8){i:Nat}(hi:i<s.length):(s.drop i).take (i+1-i)= [ch s i]:=by
 rw[qcu s (nlr _) hi,Nat.sub_self];rfl
def done(s:List UInt8)(D:List (List UInt8))(f i:Nat):Prop:=qbr s f i∧i<=s.length∧qe6 s=D++(gG f ((s.drop f).take (i-f)) (s.drop i)).map (·.2)
theorem qhA{s:List UInt8}(h:0<s.length):done s [] 0 1:=by
 refine⟨qev s,h,?_⟩;cases s with
 |nil=>simp at h
 |cons c r=>simp[qe6,zQ]
end HY
end
section
open Go Go.Proofs AF HY
namespace HY
theorem qki{s:List UInt8}: ∀(k:Nat) {f i:Nat},s.length-i=k->qbr s f i->i<=s.length->zY ((s.drop f).take (i-f))=zY [ch s f]->
  ((gG f ((s.drop f).take (i-f)) (s.drop i)).map (·.2)).any zY=(zY [ch s f]||(List.range' i (s.length-i)).any (U2 s)):=by
 intro k
 induction k with
 |zero=>
  intro f i hk hc hi hb;have e:i=s.length:=by omega
  subst e;rw[List.drop_length,Nat.sub_self];simp[gG,hb]
 |succ k ih=>
  intro f i hk hc hi hb;have hi':i<s.length:=by omega
  rw[qb9 hc.1 hi'];rw[show s.length-i=(s.length-(i+1))+1 by omega,List.range'_succ,List.any_cons];have hr:=qbs hc
  by_cases hg:kind (ch s i)=2∧kind (ch s f)=1
  ·rw[ipo hg];have hrt:zV s i=true:=by rw[hr];simp[hg]
   have hb2:zY ((s.drop f).take (i+1-f))=zY [ch s f]:=by
    rw[<-hb];unfold zY;have e:ch ((s.drop f).take (i+1-f)) 0=ch ((s.drop f).take (i-f)) 0:=by
     have:=hc.1
     simp[ch,gdqA,List.getElem?_take,show 0<i-f by omega,show 0<i+1-f by omega]
    rw[e]
   rw[ih om (qk3 hc hrt) hi' hb2]
   have:U2 s i=false:=by unfold U2;rw[hrt,hg.1];rfl
   rw[this,Bool.false_or]
  ·rw[ine hg];have hrf:zV s i=false:=by
    rw[hr];cases h2:decide (kind (ch s i)=2)<;>cases h3:decide (kind (ch s f)=1)<;>simp_all
   simp only[List.map_cons,List.any_cons,hb];have h1:(s.drop i).take (i+1-i)= [ch s i]:=qrC s hi';rw[ih om (qhQ hc hrf) hi' (by rw[h1])]
   have:U2 s i=zY [ch s i]:=by unfold U2 zY;rw[hrf];simp[ch]
   rw[this]
theorem qok(s:List UInt8):(qe6 s).any zY=(List.range s.length).any (U2 s):=by
 cases hs:s with
 |nil=>rfl
 |cons c r=>
  rw[<-hs];have h0:0<s.length:=by rw[hs];simp
  have hd:=qhA h0;have h1:(s.drop 0).take (1-0)= [ch s 0]:=qrC s h0
  have:=qki (s:=s) _ rfl hd.1 h0 (by rw[h1])
  rw[<-lna ((gG 0 ((s.drop 0).take (1-0)) (s.drop 1)).map (·.2)),<-hd.2.2]at this;rw[this,List.range_eq_range',show s.length=(s.length-1)+1 by omega,List.range'_succ,List.any_cons]
  have:U2 s 0=zY [ch s 0]:=by unfold U2 zY;simp[zV,ch]
  rw[this];simp
theorem qb8(s:List UInt8):zN s=if 65536<s.length then 4 else if (List.range s.length).any (U2 s)=true then 11 else 0:=by unfold zN;rw[qok]
theorem U6{p:Nat->Bool}{n i:Nat}(hi:i<n)(h:p i=true):(List.range n).any p=true:=List.any_eq_true.2 ⟨i,by simpa using hi,h⟩
theorem UB{p:Nat->Bool}{n:Nat}(h: ∀i,i<n->p i=false):(List.range n).any p=false:=by
 rw[List.any_eq_false];intro i hi;simp at hi;rw[h i hi];simp
theorem qEa(s:List UInt8)(h:wh)(hs:s.length<=1000000000):ACalls Tryz.prog 162 [.str s] h (.int .i64 (zN s)) h:=by
 rw[qb8]
 by_cases hl:65536<s.length
 ·have hl':(65536<(s.length:Int))=True:=wl;rw[ipo hl];refine qE qq9 (by simp) ?_;simp only[lco,lnl,Nat.reduceAdd,Nat.reduceSub,List.replicate,lca,lna,lan];simp (disch:=omega) only[qsb,hl',go_sem,qp,dvP,mdP]
  repeat' first|exact wc|fail
 ·have hl':(65536<(s.length:Int))=False:=wm;rw[ine hl];refine qE qq9 (by simp) ?_;simp only[lco,lnl,Nat.reduceAdd,Nat.reduceSub,List.replicate,lca,lna,lan];simp (disch:=omega) only[qsb,hl',go_sem,qp,dvP,mdP]
  repeat' first|(refine qJ (t95 s _ hs) ?_ ?_;exact flk;simp (disch:=omega) only[hl',qb7,go_sem,qp,dvP,mdP])
  refine qn (T:=λi:Nat=>qO 34 [(0,.str s),(3,qb7 (qbw s)),(4,.int .i64 i)]) (H:=λ_=>h) (inv:=λi=>i<=s.length∧ ∀j,j<i->U2 s j=false) (m:=λi=>s.length-i) 0 ⟨om,om⟩ (Wk.temps ?_) ?_
  ·(simp only[qb7,qO,List.foldl,go_sem,qf,qc,qa,qe];try exact we)
  ·rintro i ⟨i1,i2⟩ K hK;have hrl:(qbw s).length=s.length:=by simp[qbw]
   by_cases hi:i<s.length
   ·have hg:=qc4 hi
    by_cases hb:U2 s i=true
    ·rw[ipo (U6 hi hb)];unfold U2 at hb;simp (disch:=omega) only[qO,List.foldl,qb7,hrl,hg,j8,go_sem,qp,dvP,mdP]
     repeat' first|(refine qJ (qbi _ _) ?_ ?_;exact flk;simp (disch:=omega) only[qb7,hrl,hg,j8,go_sem,qp,dvP,mdP])|(apply qh;exact rvk;simp only[go_sem];first|exact qi|apply qg)|(with_reducible first|intro _|apply aiA)|exact clz|fail
     all_goals
      refine hK _ _ (i+1) ⟨om,?_⟩ om (Wk.temps ?_)
      ·exfalso;grind
      ·(simp only[qb7,hrl,qO,List.foldl,go_sem,qf,qc,qa,qe];try exact we)
    ·have hb':U2 s i=false:=by simpa using hb
     unfold U2 at hb;simp (disch:=omega) only[qO,List.foldl,qb7,hrl,hg,j8,go_sem,qp,dvP,mdP]
     repeat' first|(refine qJ (qbi _ _) ?_ ?_;exact flk;simp (disch:=omega) only[qb7,hrl,hg,j8,go_sem,qp,dvP,mdP])|(apply qh;exact rvk;simp only[go_sem];apply qg)|(with_reducible first|intro _|apply aiA)|exact clz|fail
     all_goals first
      |(exfalso;grind)
      |skip
     all_goals
      refine hK _ _ (i+1) ⟨om,λj hj=> ?_⟩ om (Wk.temps ?_)
      ·by_cases e:j=i
       ·subst e;exact hb'
       ·exact i2 j om
      ·(simp only[qb7,hrl,qO,List.foldl,go_sem,qf,qc,qa,qe];try exact we)
   ·have e:i=s.length:=by omega
    subst e;rw[UB i2];simp (disch:=omega) only[qO,List.foldl,go_sem,qp,dvP,mdP]
    repeat' first|exact wc|(with_reducible first|intro _|apply aiA)|exact clz|fail
end HY
end
section
open Go Go.Proofs AF HY
namespace HY
theorem qhR(b:UInt8):0<=kind b∧kind b<=6:=by
 unfold kind qez
 (repeat' split)<;>omega
theorem qvv(s:List UInt8)(p:UInt8->Bool):(List.range s.length).any (λi=>p (ch s i))=s.any p:=by
 rw[Bool.eq_iff_iff,List.any_eq_true,List.any_eq_true];constructor
 ·rintro⟨i,hi,h⟩;simp at hi;refine⟨s[i],List.getElem_mem hi,?_⟩;simpa[ch,hi] using h
 ·rintro⟨x,hx,h⟩;obtain⟨i,hi,rfl⟩:=List.mem_iff_getElem.1 hx;exact⟨i,by simpa using hi,by simpa[ch,hi] using h⟩
def spc(c:UInt8):Bool:=decide (kind c=5)||decide (kind c=6)
theorem qaB(s:List UInt8):kC s=(decide (0<s.length)&&decide (s.length<=64)&&decide (zN s=0)&&(decide (kind (ch s 0)=1)||decide (kind (ch s 0)=3))&& !((List.range s.length).any λi=>spc (ch s i))):=by
 rw[qvv];rfl
theorem t93(s:List UInt8)(h:wh)(hs:s.length<=1000000000):ACalls Tryz.prog 89 [.str s] h (.bool (kC s)) h:=by
 obtain⟨c,hc⟩:=wg (zN s)
 have h118: ∀h:wh,ACalls Tryz.prog 162 [.str s] h (.int .i64 c) h:=λh=>by rw[hc];exact qEa s h hs
 rw[qaB,<-hc]
 by_cases g0:0<s.length∧s.length<=64∧c=0∧(kind (ch s 0)=1∨kind (ch s 0)=3)
 ·obtain⟨g1,g2,g3,g4⟩:=g0;have e:(decide (0<s.length)&&decide (s.length<=64)&&decide (c=0)&&(decide (kind (ch s 0)=1)||decide (kind (ch s 0)=3)))=true:=by simp[g1,g2,g3,g4]
  rw[e,Bool.true_and];have k1:((s.length:Int)<1)=False:=wm;have k2:(64<(s.length:Int))=False:=wm;refine qE qkT (by simp) ?_;simp only[lco,lnl,Nat.reduceAdd,Nat.reduceSub,List.replicate,lca,lna,lan];simp (disch:=omega) only[qva,k1,k2,go_sem,qp,dvP,mdP]
  repeat' first|(refine qJ (qbi _ _) ?_ ?_;exact flk;simp (disch:=omega) only[k1,k2,g3,j8,go_sem,qp,dvP,mdP])|(refine qM (λe=>⟨?_,h118 _⟩) ?_;exact flk;simp (disch:=omega) only[k1,k2,g3,j8,go_sem,qp,dvP,mdP])|(apply qh;exact rvk;simp only[go_sem];apply qd)|(with_reducible first|intro _|apply aiA)|exact clz|fail
  refine qn (T:=λi:Nat=>qO 38 [(0,.str s),(4,.int .i64 i)]) (H:=λ_=>h) (inv:=λi=>i<=s.length∧ ∀j,j<i->spc (ch s j)=false) (m:=λi=>s.length-i) 0 ⟨om,om⟩ (Wk.temps ?_) ?_
  ·(simp only[qO,List.foldl,go_sem,qf,qc,qa,qe];try exact we)
  ·rintro i ⟨i1,i2⟩ K hK
   by_cases hi:i<s.length
   ·have hr:=qhR (ch s i);cases hb:spc (ch s i)with
    |true=>
     rw[U6 hi hb];unfold spc at hb;have hk:(4<kind (ch s i))=True:=eqt (by grind);simp (disch:=omega) only[qO,List.foldl,j8,go_sem,qp,dvP,mdP]
     repeat' first|(refine qJ (qbi _ _) ?_ ?_;exact flk;simp (disch:=omega) only[j8,hk,go_sem,qp,dvP,mdP])|(apply qh;exact rvk;simp only[go_sem];first|exact qi|apply qd)|(with_reducible first|intro _|apply aiA)|exact clz|fail
    |false=>
     have hk:(4<kind (ch s i))=False:=eqf (by unfold spc at hb;grind);simp (disch:=omega) only[qO,List.foldl,j8,go_sem,qp,dvP,mdP]
     repeat' first|(refine qJ (qbi _ _) ?_ ?_;exact flk;simp (disch:=omega) only[j8,hk,go_sem,qp,dvP,mdP])|(apply qh;exact rvk;simp only[go_sem];apply qd)|(with_reducible first|intro _|apply aiA)|exact clz|fail
     refine hK _ _ (i+1) ⟨om,λj hj=> ?_⟩ om (Wk.temps ?_)
     ·by_cases e:j=i
      ·subst e;exact hb
      ·exact i2 j om
     ·(simp only[qO,List.foldl,go_sem,qf,qc,qa,qe];try exact we)
   ·have e:i=s.length:=by omega
    subst e;rw[UB i2];simp (disch:=omega) only[qO,List.foldl,go_sem,qp,dvP,mdP]
    repeat' first|exact wc|(with_reducible first|intro _|apply aiA)|exact clz|fail
 ·have e:(decide (0<s.length)&&decide (s.length<=64)&&decide (c=0)&&(decide (kind (ch s 0)=1)||decide (kind (ch s 0)=3)))=false:=by
   rw[Bool.eq_false_iff];intro h;simp only[Bool.and_eq_true,Bool.or_eq_true,decide_eq_true_eq]at h;exact g0 ⟨h.1.1.1,h.1.1.2,h.1.2,h.2⟩
  rw[e,Bool.false_and]
  by_cases g1:0<s.length
  ·by_cases g2:s.length<=64
   ·have k1:((s.length:Int)<1)=False:=wm;have k2:(64<(s.length:Int))=False:=wm
    by_cases g3:c=0
    ·have g4: ¬kind (ch s 0)=1∧ ¬kind (ch s 0)=3:=by
      constructor
      ·intro h;exact g0 ⟨g1,g2,g3,.inl h⟩
      ·intro h;exact g0 ⟨g1,g2,g3,.inr h⟩
     have g5:=g4.1;have g6:=g4.2;refine qE qkT (by simp) ?_;simp only[lco,lnl,Nat.reduceAdd,Nat.reduceSub,List.replicate,lca,lna,lan];simp (disch:=omega) only[qva,k1,k2,go_sem,qp,dvP,mdP]
     repeat' first|(refine qJ (qbi _ _) ?_ ?_;exact flk;simp (disch:=omega) only[k1,k2,g3,j8,g5,g6,go_sem,qp,dvP,mdP])|(refine qM (λe=>⟨?_,h118 _⟩) ?_;exact flk;simp (disch:=omega) only[k1,k2,g3,j8,g5,g6,go_sem,qp,dvP,mdP])|exact wc|with_reducible apply aiA|exact clz|fail
    ·refine qE qkT (by simp) ?_;simp only[lco,lnl,Nat.reduceAdd,Nat.reduceSub,List.replicate,lca,lna,lan];simp (disch:=omega) only[qva,k1,k2,go_sem,qp,dvP,mdP]
     repeat' first|(refine qM (λe=>⟨?_,h118 _⟩) ?_;exact flk;simp (disch:=omega) only[k1,k2,g3,j8,go_sem,qp,dvP,mdP])|exact wc|fail
   ·have k1:((s.length:Int)<1)=False:=wm;have k2:(64<(s.length:Int))=True:=wl;refine qE qkT (by simp) ?_;simp only[lco,lnl,Nat.reduceAdd,Nat.reduceSub,List.replicate,lca,lna,lan];simp (disch:=omega) only[qva,k1,k2,go_sem,qp,dvP,mdP]
    repeat' first|(refine qj ((.int .i64 0)) ?_;simp (disch:=omega) only[k1,k2,go_sem,qp,dvP,mdP])|exact wc|fail
  ·have k1:((s.length:Int)<1)=True:=wl;refine qE qkT (by simp) ?_;simp only[lco,lnl,Nat.reduceAdd,Nat.reduceSub,List.replicate,lca,lna,lan];simp (disch:=omega) only[qva,k1,go_sem,qp,dvP,mdP]
   repeat' first|(refine qj ((.int .i64 0)) ?_;simp (disch:=omega) only[k1,go_sem,qp,dvP,mdP])|exact wc|fail
end HY
end
section
open Go Go.Proofs AF HY
namespace LN
def ld(c:UInt8):Bool:=decide (kind c=1)||decide (kind c=3)
theorem t66(s:List UInt8)(h:wh)(hs:s.length<=1000000000):ACalls Tryz.prog 253 [.str s] h (.int .i64 ((s.countP ld:Nat):Int)) h:=by
 refine qE qx6 (by simp) ?_;simp only[lco,lnl,Nat.reduceAdd,Nat.reduceSub,List.replicate,lca,lna,lan];simp (disch:=omega) only[qwi,go_sem];refine qn (T:=λi:Nat=>qO 25 [(0,.str s),(3,.int .i64 (((s.take i).countP ld:Nat):Int)),(7,.int .i64 s.length),(8,.int .i64 i)]) (H:=λ_=>h) (inv:=λi=>i<=s.length) (m:=λi=>s.length-i) 0 om (Wk.temps ?_) ?_
 ·(simp only[qO,List.foldl,go_sem,qf,qc,qa,qe];try exact we)
 ·rintro i i1 K hK
  by_cases hi:i<s.length
  ·obtain⟨c,hc⟩:=wg (s.getD i 0)
   have e1:(s[i]?).getD 0=c:=by rw[hc,gdqA]
   have e2:s.take (i+1)=s.take i++ [c]:=by rw[List.take_add_one,hc,gdqA,zz hi];rfl
   have hb:=c.toNat_lt;have c92:=λh=>qD7 (c.toNat:Int) h om om
   have hn:(s.take i).countP ld<=s.length:=Nat.le_trans List.countP_le_length (by simp;omega);obtain⟨n,hN⟩:=wg ((s.take i).countP ld)
   rw[<-hN]at hn ⊢;obtain⟨k,hk⟩:=wg (qez (c.toNat:Int))
   have hk':k=kind c:=hk;rw[<-hk]at c92;have e3:(s.take (i+1)).countP ld=n+if ld c=true then 1 else 0:=by
    rw[e2,List.countP_append,<-hN];simp[List.countP_cons]
   by_cases g1:k=1
   ·have k1:(k=1)=True:=eqt g1;have g:ld c=true:=by unfold ld;rw[<-hk',g1];rfl
    rw[ipo g]at e3;simp (disch:=omega) only[qO,List.foldl,e1,go_sem]
    repeat' first|(refine qJ (c92 _) ?_ ?_;exact flk;simp (disch:=omega) only[k1,go_sem,qp])|(apply qh;exact rvk;simp only[go_sem];apply qg)|(with_reducible first|intro _|apply aiA)|exact clz|fail
    refine hK _ _ (i+1) om om (Wk.temps ?_);rw[e3]
    (simp only[qO,List.foldl,go_sem,qf,qc,qa,qe];try exact we)
   ·have k1:(k=1)=False:=eqf g1
    by_cases g2:k=3
    ·have k2:(k=3)=True:=eqt g2;have g:ld c=true:=by unfold ld;rw[<-hk',g2];rfl
     rw[ipo g]at e3;simp (disch:=omega) only[qO,List.foldl,e1,go_sem]
     repeat' first|(refine qJ (c92 _) ?_ ?_;exact flk;simp (disch:=omega) only[k1,k2,go_sem,qp])|(apply qh;exact rvk;simp only[go_sem];apply qg)|(with_reducible first|intro _|apply aiA)|exact clz|fail
     refine hK _ _ (i+1) om om (Wk.temps ?_);rw[e3]
     (simp only[qO,List.foldl,go_sem,qf,qc,qa,qe];try exact we)
    ·have k2:(k=3)=False:=eqf g2;have g: ¬ld c=true:=by unfold ld;rw[<-hk',dqf g1,dqf g2];simp
     rw[ine g]at e3;simp (disch:=omega) only[qO,List.foldl,e1,go_sem]
     repeat' first|(refine qJ (c92 _) ?_ ?_;exact flk;simp (disch:=omega) only[k1,k2,go_sem,qp])|(apply qh;exact rvk;simp only[go_sem];apply qg)|(with_reducible first|intro _|apply aiA)|exact clz|fail
     refine hK _ _ (i+1) om om (Wk.temps ?_);rw[e3,Nat.add_zero]
     (simp only[qO,List.foldl,go_sem,qf,qc,qa,qe];try exact we)
  ·have e:i=s.length:=by omega
   subst e;rw[List.take_length];simp (disch:=omega) only[qO,List.foldl,go_sem]
   repeat' first|exact wc|(with_reducible first|intro _|apply aiA)|exact clz|fail
def cb(s:List UInt8):Bool:=decide (s≠ [])&&(decide (s.length<=16)&&decide (s.countP ld=s.length))
theorem t44(s:List UInt8)(h:wh)(hs:s.length<=1000000000):ACalls Tryz.prog 181 [.str s] h (.bool (cb s)) h:=by
 have c66:=λh=>t66 s h hs
 unfold cb
 by_cases g1:s= []
 ·have k1:(s= [])=True:=eqt g1;rw[dqf (show¬s≠ []from λhc=>hc g1)];refine qE qgt (by simp) ?_;simp only[lco,lnl,Nat.reduceAdd,Nat.reduceSub,List.replicate,lca,lna,lan];simp (disch:=omega) only[qjN,k1,go_sem]
  repeat' first|(refine qj ((.int .i64 0)) ?_;simp (disch:=omega) only[go_sem])|exact wc|(with_reducible first|intro _|apply aiA)|exact clz|fail
 ·have k1:(s= [])=False:=eqf g1;rw[dqt (show s≠ []from g1)]
  by_cases g2:s.length<=16
  ·have k2:((s.length:Int)<=16)=True:=wl;rw[dqt g2]
   by_cases g3:s.countP ld=s.length
   ·have k3:(((s.countP ld:Nat):Int)=s.length)=True:=wl;rw[dqt g3];refine qE qgt (by simp) ?_;simp only[lco,lnl,Nat.reduceAdd,Nat.reduceSub,List.replicate,lca,lna,lan];simp (disch:=omega) only[qjN,k1,k2,go_sem]
    repeat' first|(refine qM (λe=>⟨?_,c66 _⟩) ?_;exact flk;simp (disch:=omega) only[k3,go_sem])|exact wc|fail
   ·have k3:(((s.countP ld:Nat):Int)=s.length)=False:=wm;rw[dqf g3];refine qE qgt (by simp) ?_;simp only[lco,lnl,Nat.reduceAdd,Nat.reduceSub,List.replicate,lca,lna,lan];simp (disch:=omega) only[qjN,k1,k2,go_sem]
    repeat' first|(refine qM (λe=>⟨?_,c66 _⟩) ?_;exact flk;simp (disch:=omega) only[k3,go_sem])|exact wc|fail
  ·have k2:((s.length:Int)<=16)=False:=wm;rw[dqf g2];refine qE qgt (by simp) ?_;simp only[lco,lnl,Nat.reduceAdd,Nat.reduceSub,List.replicate,lca,lna,lan];simp (disch:=omega) only[qjN,k1,k2,go_sem]
   repeat' first|(refine qj ((.int .i64 0)) ?_;simp (disch:=omega) only[go_sem])|exact wc|fail
theorem t77(s:List UInt8)(h:wh)(hs:s.length<=1000000000):ACalls Tryz.prog 210 [.str s] h (.int .i64 ((s.countP ld:Nat):Int)) h:=by
 refine qE qxN (by simp) ?_;simp only[lco,lnl,Nat.reduceAdd,Nat.reduceSub,List.replicate,lca,lna,lan];simp (disch:=omega) only[qvZ,go_sem];refine qn (T:=λi:Nat=>qO 25 [(0,.str s),(3,.int .i64 (((s.take i).countP ld:Nat):Int)),(4,.int .i64 i)]) (H:=λ_=>h) (inv:=λi=>i<=s.length) (m:=λi=>s.length-i) 0 om (Wk.temps ?_) ?_
 ·(simp only[qO,List.foldl,go_sem,qf,qc,qa,qe];try exact we)
 ·rintro i i1 K hK
  by_cases hi:i<s.length
  ·obtain⟨c,hc⟩:=wg (s.getD i 0)
   have e1:(s[i]?).getD 0=c:=by rw[hc,gdqA]
   have e2:s.take (i+1)=s.take i++ [c]:=by rw[List.take_add_one,hc,gdqA,zz hi];rfl
   have c55:=λh=>qD9 (c.toNat:Int) h
   have hn:(s.take i).countP ld<=s.length:=Nat.le_trans List.countP_le_length (by simp;omega);obtain⟨n,hN⟩:=wg ((s.take i).countP ld)
   rw[<-hN]at hn ⊢;obtain⟨k,hk⟩:=wg (qez (c.toNat:Int))
   have hk':k=kind c:=hk;rw[<-hk]at c55;have e3:(s.take (i+1)).countP ld=n+if ld c=true then 1 else 0:=by
    rw[e2,List.countP_append,<-hN];simp[List.countP_cons]
   have q0:((i:Int)<s.length)=True:=wl
   by_cases g1:k=1
   ·have k1:(k=1)=True:=eqt g1;have g:ld c=true:=by unfold ld;rw[<-hk',g1];rfl
    rw[ipo g]at e3;simp (disch:=omega) only[qO,List.foldl,e1,q0,go_sem]
    repeat' first|(refine qJ (c55 _) ?_ ?_;exact flk;simp (disch:=omega) only[k1,go_sem,qp])|with_reducible apply aiA|exact clz|fail
    refine hK _ _ (i+1) om om (Wk.temps ?_);rw[e3]
    (simp only[qO,List.foldl,go_sem,qf,qc,qa,qe];try exact we)
   ·have k1:(k=1)=False:=eqf g1
    by_cases g2:k=3
    ·have k2:(k=3)=True:=eqt g2;have g:ld c=true:=by unfold ld;rw[<-hk',g2];rfl
     rw[ipo g]at e3;simp (disch:=omega) only[qO,List.foldl,e1,q0,go_sem]
     repeat' first|(refine qJ (c55 _) ?_ ?_;exact flk;simp (disch:=omega) only[k1,k2,go_sem,qp])|with_reducible apply aiA|exact clz|fail
     refine hK _ _ (i+1) om om (Wk.temps ?_);rw[e3]
     (simp only[qO,List.foldl,go_sem,qf,qc,qa,qe];try exact we)
    ·have k2:(k=3)=False:=eqf g2;have g:ld c=false:=by unfold ld;rw[<-hk',dqf g1,dqf g2];rfl
     rw[ine (by rw[g];simp)]at e3;simp (disch:=omega) only[qO,List.foldl,e1,q0,go_sem]
     repeat' first|(refine qJ (c55 _) ?_ ?_;exact flk;simp (disch:=omega) only[k1,k2,go_sem,qp])|with_reducible apply aiA|exact clz|fail
     refine hK _ _ (i+1) om om (Wk.temps ?_);rw[e3]
     (simp only[qO,List.foldl,go_sem,qf,qc,qa,qe];try exact we)
  ·have e:i=s.length:=by omega
   subst e;rw[List.take_length];have q0:((s.length:Int)<s.length)=False:=wm;simp (disch:=omega) only[qO,List.foldl,q0,go_sem]
   repeat' first|exact wc|fail
theorem qli{s:List UInt8}(h1:s≠ [])(h2:s.length<=16)(h3:s.countP ld=s.length):kC s=true:=by
 have hall: ∀c∈s,ld c=true:=List.countP_eq_length.1 h3;have hch: ∀i,i<s.length->kind (ch s i)=1∨kind (ch s i)=3:=by
  intro i hi;have hm:ch s i∈s:=by
   have e:ch s i=s[i]:=by simp[ch,hi]
   rw[e];exact List.getElem_mem hi
  have:=hall _ hm
  unfold ld at this;simpa using this
 have hp:0<s.length:=List.length_pos_iff.2 h1;have hc:zN s=0:=by
  rw[qb8,ine om,ine];rw[List.any_eq_true];rintro⟨i,hi,hb⟩
  have:=hch i (List.mem_range.1 hi)
  unfold U2 at hb;rcases this with h|h<;>rw[h]at hb<;>simp at hb
 rw[qaB,dqt hp,dqt (show s.length<=64 by omega),dqt hc];have h0:=hch 0 hp;have e0:(decide (kind (ch s 0)=1)||decide (kind (ch s 0)=3))=true:=by simpa using h0
 rw[e0];have ea:((List.range s.length).any λi=>spc (ch s i))=false:=by
  rw[List.any_eq_false];intro i hi
  have:=hch i (List.mem_range.1 hi)
  unfold spc;rcases this with h|h<;>rw[h]<;>decide
 rw[ea];rfl
theorem t53(s:List UInt8)(h:wh)(hs:s.length<=1000000000):ACalls Tryz.prog 136 [.str s] h (.bool (cb s)) h:=by
 have c76:=λh=>t93 s h hs
 have c77:=λh=>t77 s h hs
 unfold cb
 by_cases g2:s.length<=16
 ·have k2:((s.length:Int)<=16)=True:=wl;rw[dqt g2,Bool.true_and]
  by_cases g3:s.countP ld=s.length
  ·have k3:((s.countP ld:Int)=s.length)=True:=wl;rw[dqt g3,Bool.and_true]
   by_cases g1:s= []
   ·rw[dqf (λhc=>hc g1)];have hw:kC s=false:=by subst g1;rw[qaB];rfl
    rw[hw]at c76;refine qE qep (by simp) ?_;simp only[lco,lnl,Nat.reduceAdd,Nat.reduceSub,List.replicate,lca,lna,lan];simp (disch:=omega) only[qhn,k2,go_sem]
    repeat' first|(refine qj ((.int .i64 0)) ?_;simp (disch:=omega) only[go_sem])|(refine qM (λe=>⟨?_,c76 _⟩) ?_;exact flk;simp (disch:=omega) only[go_sem])|exact wc|fail
   ·rw[dqt g1];rw[qli g1 g2 g3]at c76;refine qE qep (by simp) ?_;simp only[lco,lnl,Nat.reduceAdd,Nat.reduceSub,List.replicate,lca,lna,lan];simp (disch:=omega) only[qhn,k2,go_sem]
    repeat' first|((first|refine qM (λe=>⟨?_,c76 _⟩) ?_|refine qM (λe=>⟨?_,c77 _⟩) ?_);exact flk;simp (disch:=omega) only[k3,go_sem])|exact wc|fail
  ·have k3:((s.countP ld:Int)=s.length)=False:=wm;rw[dqf g3,Bool.and_false];cases hw:kC s with
   |false=>
    rw[hw]at c76;refine qE qep (by simp) ?_;simp only[lco,lnl,Nat.reduceAdd,Nat.reduceSub,List.replicate,lca,lna,lan];simp (disch:=omega) only[qhn,k2,go_sem]
    repeat' first|(refine qj ((.int .i64 0)) ?_;simp (disch:=omega) only[go_sem])|(refine qM (λe=>⟨?_,c76 _⟩) ?_;exact flk;simp (disch:=omega) only[go_sem])|exact wc|fail
   |true=>
    rw[hw]at c76;refine qE qep (by simp) ?_;simp only[lco,lnl,Nat.reduceAdd,Nat.reduceSub,List.replicate,lca,lna,lan];simp (disch:=omega) only[qhn,k2,go_sem]
    repeat' first|((first|refine qM (λe=>⟨?_,c76 _⟩) ?_|refine qM (λe=>⟨?_,c77 _⟩) ?_);exact flk;simp (disch:=omega) only[k3,go_sem])|exact wc|fail
 ·have k2:((s.length:Int)<=16)=False:=wm;rw[dqf g2,Bool.false_and,Bool.and_false];refine qE qep (by simp) ?_;simp only[lco,lnl,Nat.reduceAdd,Nat.reduceSub,List.replicate,lca,lna,lan];simp (disch:=omega) only[qhn,k2,go_sem]
  repeat' first|(refine qj ((.bool false)) ?_;simp (disch:=omega) only[go_sem])|exact wc|fail
end LN
end
section
open Go Go.Proofs AF HY
namespace HY
theorem qD8(s:List UInt8)(f a:Nat)(h:wh)(hf:f<s.length):ACalls Tryz.prog 336 [.str s,.int .i64 f,.int .i64 a] h (.bool (decide (kind (ch s f)=1)&&decide (f<a))) h:=by
 refine qE qyq (by simp) ?_;simp only[lco,lnl,Nat.reduceAdd,Nat.reduceSub,List.replicate,lca,lna,lan];simp (disch:=omega) only[qwz,j8,go_sem]
 repeat' first|(refine qJ (qbI _ _) ?_ ?_;exact flk;simp (disch:=omega) only[go_sem])|(apply qh;exact rvk;simp only[go_sem];apply qd)|with_reducible apply aiA
 all_goals first
  |omega
  |(congr 1;exact decide_eq_decide.2 om)
  |skip
theorem qCH(s:List UInt8)(hs:s.length<=1000000000):qns Tryz.prog 335 [.ip [.str s]] ((zQ s).map λx=> [.int .i64 (x.1:Int),.str x.2]):=by
 intro h ts L S E hS hE body start hts;refine qaY qyp (by simp) ?_;simp only[lco,lnl,Nat.reduceAdd,Nat.reduceSub,List.replicate,lca,lna,lan];simp (disch:=omega) only[qwy,go_sem]
 all_goals first
  |omega
  |skip
 refine qn (T:=λi:Nat×Nat×Nat×wh=>qO 37 [(0,.yld h.length),(1,.ip [.str s]),(3,.int .i64 i.1),(4,.int .i64 i.2.1)]) (H:=λi=>i.2.2.2++ [.lp .ready ts L])
  (inv:=λi=>S i.2.2.1 i.2.2.2∧((i.2.1<=s.length∧i.1<i.2.1∧(zQ s).drop i.2.2.1=gG i.1 ((s.drop i.1).take (i.2.1-i.1)) (s.drop i.2.1))∨(s.length<i.2.1∧i.2.1<=s.length+1∧i.2.2.1=(zQ s).length))) (m:=λi=>s.length+1-i.2.1) (0,1,0,h) ⟨start,?_⟩ (Wk.temps ?_) ?_
 ·simp only;cases s with
  |nil=>right;simp[zQ]
  |cons c r=>left;simp[zQ]
 ·(simp only[qO,List.foldl,go_sem,qf,qc,qe];try exact we)
 ·rintro⟨f,i,j,hh⟩ ⟨i1,i2⟩ K hK;simp only at i1 i2 hK;obtain⟨hlen,hlow⟩:=hS _ _ i1;rcases i2 with⟨g1,g2,g3⟩|⟨g1,g2,rfl⟩
  ·have hjl:j<(zQ s).length:=by
    have:(zQ s).drop j≠ []:=by rw[g3];exact qoj _ _ _
    by_cases hj:j<(zQ s).length
    ·exact hj
    ·exact absurd (List.drop_of_length_le om) this
   by_cases hk:i<s.length∧kind (ch s i)=2∧kind (ch s f)=1
   ·have hst:=qb9 g2 hk.1;rw[ipo hk.2]at hst;simp (disch:=omega) only[qO,List.foldl,j8,go_sem]
    repeat' first|((first|refine qM (λe=>⟨?_,qbI _ _⟩) ?_|refine qM (λe=>⟨?_,qD8 s f i _ om⟩) ?_);exact flk;simp (disch:=omega) only[hk.2.1,hk.2.2,go_sem,qp])|(with_reducible first|intro _|apply aiA)
    all_goals first
     |omega
     |skip
    refine hK _ _ (f,i+1,j,hh) ⟨i1,.inl ⟨by simp only;omega,by simp only;omega,by rw[g3,hst]⟩⟩ (by simp only;omega) (Wk.temps ?_)
    (simp only[qO,List.foldl,go_sem,qf,qc,qa,qe];try exact we)
   ·obtain⟨rest,hrest,hr1⟩: ∃rest,(zQ s).drop j=(f,(s.drop f).take (i-f))::rest∧(if i<s.length then rest=gG i ((s.drop i).take (i+1-i)) (s.drop (i+1)) else rest= []):=by
     by_cases hi:i<s.length
     ·have hst:=qb9 g2 hi;rw[ine (λh=>hk ⟨hi,h⟩)]at hst;exact⟨_,g3.trans hst,by rw[ipo hi]⟩
     ·refine⟨[],?_,by rw[ine hi]⟩;rw[g3,show s.drop i= []from List.drop_of_length_le om];rfl
    rw[List.drop_eq_getElem_cons hjl]at hrest;obtain⟨hget,hdrop⟩:=List.cons.inj hrest;have hb:=body j hh [] (by simpa using hjl) i1;rw[List.getElem_map,hget]at hb;simp only at hb;have hfit:(i:Int)-f=((i-f:Nat):Int):=by omega
    simp (disch:=omega) only[qO,List.foldl,j8,go_sem]
    repeat' first|((first|refine qM (λe=>⟨?_,qbI _ _⟩) ?_|refine qM (λe=>⟨?_,qD8 s f i _ om⟩) ?_);exact flk;simp (disch:=omega) only[go_sem,qp])|(with_reducible first|intro _|apply aiA)
    all_goals first
     |omega
     |exact⟨.ready,ts,L,kR hlen⟩
     |skip
    refine km.mono ?_ hb;rintro v h' ⟨hh',⟨rfl,hn,rfl⟩|⟨st,rfl,hs',rfl⟩⟩
    ·simp (disch:=omega) only[go_sem,qp]
     all_goals first
      |omega
      |(rename_i hx;revert hx;simp;done)
      |skip
     by_cases hi:i<s.length
     ·rw[ipo hi]at hr1;refine hK _ _ (i,i+1,j+1,hh') ⟨hn,.inl ⟨by simp only;omega,by simp only;omega,by simp only;rw[hdrop,hr1]⟩⟩ (by simp only;omega) (Wk.temps ?_)
      (simp only[qO,List.foldl,go_sem,qf,qc,qa,qe];try exact we)
     ·rw[ine hi]at hr1;refine hK _ _ (i,i+1,j+1,hh') ⟨hn,.inr ⟨by simp only;omega,by simp only;omega,?_⟩⟩ (by simp only;omega) (Wk.temps ?_)
      ·have:((zQ s).drop (j+1)).length=0:=by rw[hdrop,hr1];rfl
       rw[List.length_drop]at this;simp only;omega
      ·(simp only[qO,List.foldl,go_sem,qf,qc,qa,qe];try exact we)
    ·simp (disch:=omega) only[go_sem,qp];obtain⟨r1,r2⟩:=(hE _ _ hs').ret (L:=L) st hts;exact qgw trivial r1 r2 ⟨_,.inr ⟨st,hs',rfl⟩⟩ (qi)
  ·simp (disch:=omega) only[qO,List.foldl,go_sem]
   repeat' first|(with_reducible first|intro _|apply aiA)
   all_goals first
    |omega
    |skip
   obtain⟨r1,r2⟩:=(hS _ _ i1).ret (L:=L) .ready hts;exact jG trivial r1 r2 ⟨hh,.inl ⟨by simpa using i1,rfl⟩⟩ (qi)
def qkh(s:List UInt8):AV:= .fn (.func 335) [] [.ip [.str s]]
def qei(s:List UInt8):List wj:=(zQ s).map λx=> [.int .i64 (x.1:Int),.str x.2]
theorem qej(s:List UInt8):(qei s).length=(qe6 s).length:=by simp[qei,qe6]
theorem qkk(s:List UInt8){i:Nat}(hi:i<(qei s).length): ∃n:Nat,(qei s)[i]= [.int .i64 (n:Int),.str ((qe6 s).getD i [])]:=by
 have h1:i<(zQ s).length:=by simpa[qei] using hi
 refine⟨((zQ s)[i]).1,?_⟩;simp[qei,qe6,gdqA,h1]
theorem t91(s:List UInt8)(h:wh):ACalls Tryz.prog 280 [.str s] h (qkh s) h:=by
 refine qE qyd (by simp) ?_;simp only[lco,lnl,Nat.reduceAdd,Nat.reduceSub,List.replicate,lca,lna];simp (disch:=omega) only[qwo,go_sem]
 repeat' first|exact wa|fail
theorem qhF(s:List UInt8):(qkh s).flag=true:=rfl
theorem qfS(s:List UInt8):(qkh s).strip=qkh s:=rfl
attribute [go_sem] qhF qfS
theorem _root_.AF.LowI.app{h a b:wh}(e:b.length=a.length)(hb: ∀o∈b,o∈a∨(lowO (h.length+a.length) o∧lowO (h.length+a.length+1) o)):LowI (h++a) (h++b):=by
 refine⟨by simp[e],λo ho=> ?_⟩;rw[lap];rcases List.mem_append.1 ho with ho|ho
 ·exact .inl (List.mem_append_left _ ho)
 ·rcases hb o ho with h1|h1
  ·exact .inl (List.mem_append_right _ h1)
  ·exact .inr h1
theorem qmO(l:List (List UInt8)){i:Nat}(h:i<l.length):l.take (i+1)=l.take i++ [l.getD i []]:=by
 rw[List.take_add_one,zz h];simp[gdqA,h]
theorem qde{l:List (List UInt8)}{p:List UInt8->Bool}{i:Nat}(h:i<l.length):(l.take (i+1)).any p=((l.take i).any p||p (l.getD i [])):=by
 rw[qmO l h,List.any_append];simp
theorem qvu{l:List (List UInt8)}{p:List UInt8->Bool}{i:Nat}(h:i<l.length)(hp:p (l.getD i [])=true):l.any p=true:=by
 rw[List.any_eq_true];refine⟨l.getD i [],?_,hp⟩;rw[gdqA,zz h];exact List.getElem_mem h
theorem qsG{s:List UInt8}{i:Nat}(h:i<(qe6 s).length):0<((qe6 s).getD i []).length:=by
 apply List.length_pos_iff.2;apply qsH (s:=s);rw[gdqA,zz h];exact List.getElem_mem h
set_option maxHeartbeats 4000000 in
theorem qC3(s:List UInt8)(h:wh)(hs:s.length<=1000000000):ACalls Tryz.prog 219 [.str s] h (.int .i64 (zN s)) h:=by
 have hit:=qCH s hs;unfold zN
 by_cases hl:65536<s.length
 ·have hl':(65536<(s.length:Int))=True:=wl;rw[ipo hl];refine qE qrd (by simp) ?_;simp only[lco,lnl,Nat.reduceAdd,Nat.reduceSub,List.replicate,lca,lna];simp (disch:=omega) only[qse,hl',go_sem]
  repeat' first|exact wa|fail
  all_goals trace_state
 ·have hl':(65536<(s.length:Int))=False:=wm;rw[ine hl];refine qE qrd (by simp) ?_;simp only[lco,lnl,Nat.reduceAdd,Nat.reduceSub,List.replicate,lca,lna];simp (disch:=omega) only[qse,hl',go_sem]
  repeat' first|(refine qJ (t91 s _) ?_ ?_;exact flk;simp (disch:=omega) only[go_sem])
  refine qh3 (xs:=qei s) hit (by intro a ha;simp[qei]at ha;obtain⟨_,_,_,rfl⟩:=ha;rfl)
   (S:=λi hh=>hh=h++ [.mem 1 28 [.int .i64 0]]∧((qe6 s).take i).any zY=false)
   (E:=λe hh=>e= .ret∧hh=h++ [.mem 1 28 [.int .i64 11]]∧(qe6 s).any zY=true) ?_ ?_ ?_ ?_ ?_ ?_ ?_
  ·rintro i hh ⟨rfl,_⟩;exact LowI.refl _
  ·rintro e hh ⟨_,rfl,_⟩;refine LowI.app rfl (λo ho=> ?_);simp only[List.mem_cons,List.not_mem_nil,or_false]at ho;subst ho;right;constructor<;>(intro c hc;simp at hc;subst hc;rfl)
  ·exact⟨rfl,by simp⟩
  ·simp[qT,qT.lowVs,qkh]
   try omega
  ·rintro i hh tl L hi ⟨rfl,hno⟩ hlen;obtain⟨n,hx⟩:=qkk s hi;rw[qej]at hi;rw[hx];have hnx:=qde (p:=zY) hi;rw[hno,Bool.false_or]at hnx;have hat:=qvu (p:=zY) hi;obtain⟨c,hc⟩:=wg ((qe6 s).getD i [])
   have hcl:=qsG hi;rw[<-hc]at hcl hnx hat ⊢;simp only[kK];simp (disch:=omega) only[List.append_assoc,eq_self,j8,go_sem]
   repeat' first|(refine qJ (qbI _ _) ?_ ?_;exact flk;simp (disch:=omega) only[eq_self,go_sem])|(with_reducible first|intro _|apply aiA)|exact clz|fail
   ·rename_i hx;exact⟨h++ [.mem 1 28 [.int .i64 11]],by simp,by simp,by simp,hat (by unfold zY;simpa using hx)⟩
   ·rename_i hx;exact⟨h++ [.mem 1 28 [.int .i64 0]],by simp,by simp,by simp,by rw[hnx];unfold zY;simpa using hx⟩
  ·rintro hh ⟨rfl,hno⟩;rw[qej,List.take_length]at hno;rw[hno];simp (disch:=omega) only[go_sem]
   repeat' first|exact wa|fail
   all_goals trace_state
  ·rintro e hh ⟨rfl,rfl,hb⟩;rw[hb];show Ex.inBlock 0 _ .ret _ _;simp (disch:=omega) only[go_sem]
   repeat' first|exact wa|fail
   all_goals trace_state
end HY
end
