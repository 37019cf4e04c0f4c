import Derived.KernelRfl
import Derived.Test.YtgoandblgcjleaaGreatDoorK7
import Derived.Test.YtgoandblgcjleaaGreatDoorK4
import Derived.Test.YtgoandblgcjleaaGreatDoorK3
import Derived.Test.YtgoandblgcjleaaGreatDoorProg
import Derived.Test.YtgoandblgcjleaaGreatDoorK5
import Derived.Below
import Derived.Shelf.Strconv.Itoa3
import Derived.Shelf.Strconv.ErrVarAll
import Derived.Shelf.Strings.BuilderX
import Derived.Shelf.RegionOpenPlain
import Derived.Lib.Strings
import Derived.Lib.Slices
import Derived.Lib.Walk
import Derived.Lib.Bytealg
import Derived.WalkKit
import Derived.Laws.Externs
set_option linter.all false
set_option linter.unusedSimpArgs false
set_option linter.unusedVariables false
set_option linter.unusedSectionVars false
set_option maxRecDepth 100000
section
namespace AF
open Go
theorem fi{P:Program}{f:Nat}(fn:Func)(js:List Tmp)(imp:List FuncId)(wks:List Nat){nt ns:Nat}{rs:List RV}{c:C}(h1:P.funcs[f]? =some fn:=by kernel_rfl)
  (h2 : (fn.body.isSome && (fn.name != "runtime.NumGoroutine")) = true := by kernel_rfl) (h3 : (fn.ntmps, js.length) = (nt, ns) := by kernel_rfl) (h4 : (qgu P fn.results.toList, cv P js imp wks (fn.body.getD .skip)) = (some rs, some c) := by kernel_rfl) : qI P f nt ns rs c := by
 cases hb:fn.body with
 |none=>rw[hb]at h2;cases h2
 |some body=>
  rw[hb]at h2 h4;cases h3;simp only[Prod.mk.injEq]at h4;exact⟨fn,body,js,imp,wks,h1,hb,by simpa using h2,rfl,rfl,h4.1,h4.2⟩
def qbQ(p:Nat→Bool):Nat→Nat→Int
 |0,_=> -1
 |k+1,i=>if p i=true then i else qbQ p k (i+1)
theorem qdK{p:Nat→Bool}{n i:Nat}(hi:i≤n)(h: ∀j,j<i→p j=false):qbQ p n 0=qbQ p (n-i) i:=by
 induction i with
 |zero=>rfl
 |succ i ih=>
  rw[ih om (fun j hj=>h j om),show n-i=(n-(i+1))+1 by omega];simp only[qbQ,h i om,Bool.false_eq_true,if_false]
theorem kl{p:Nat→Bool}{n i:Nat}(hi:i<n)(h: ∀j,j<i→p j=false)(hp:p i=true):qbQ p n 0=i:=by
 rw[qdK om h,show n-i=(n-i-1)+1 by omega];unfold qbQ;rw[hp];rfl
theorem qaA{p:Nat→Bool}{n:Nat}(h: ∀j,j<n→p j=false):qbQ p n 0= -1:=by
 rw[qdK (nlr n) h,Nat.sub_self];rfl
theorem zY(p:Nat→Bool)(n:Nat):(∃i,i<n∧p i=true∧(∀j,j<i→p j=false)∧qbQ p n 0=i)∨((∀j,j<n→p j=false)∧qbQ p n 0= -1):=by
 induction n with
 |zero=>exact .inr ⟨fun j hj=>by omega,rfl⟩
 |succ n ih=>
  by_cases h: ∃i,i<n+1∧p i=true
  ·rcases ih with⟨i,h1,h2,h3,h4⟩|⟨h1,h2⟩
   ·exact .inl ⟨i,om,h2,h3,kl om h3 h2⟩
   ·obtain⟨i,h3,h4⟩:=h;have e:i=n:=by
     by_cases e:i<n
     ·rw[h1 i e]at h4;cases h4
     ·omega
    subst e;exact .inl ⟨i,h3,h4,h1,kl h3 h1 h4⟩
  ·refine .inr ?_;have h': ∀j,j<n+1→p j=false:=fun j hj=>by
    cases e:p j with
    |false=>rfl
    |true=>exact absurd ⟨j,hj,e⟩ h
   exact⟨h',qaA h'⟩
def zH(p:Nat→Bool)(n:Nat):Bool:=decide (0≤qbQ p n 0)
theorem qv{p:Nat→Bool}{n:Nat}:zH p n=true↔ ∃i,i<n∧p i=true:=by
 unfold zH;rw[decide_eq_true_iff];rcases zY p n with⟨i,h1,h2,_,h4⟩|⟨h1,h2⟩
 ·rw[h4];exact⟨fun _=>⟨i,h1,h2⟩,fun _=>by omega⟩
 ·rw[h2];exact⟨fun h=>by omega,fun ⟨i,h3,h4⟩=>by rw[h1 i h3]at h4;cases h4⟩
theorem qk{p:Nat→Bool}{n:Nat}:zH p n=false↔ ∀i,i<n→p i=false:=by
 constructor
 ·intro h i hi;cases e:p i with
  |false=>rfl
  |true=>rw[qv.2 ⟨i,hi,e⟩]at h;cases h
 ·intro h;cases e:zH p n with
  |false=>rfl
  |true=>
   obtain⟨i,h1,h2⟩:=qv.1 e;rw[h i h1]at h2;cases h2
def cIX:C:=
 ((C.ops [MC 4 (i6 0)]).seq (((C.ops [MV 6 0,O1 7 .len 6,MC 8 (i6 0)]).seq (C.block 0 ((C.ops [BI 9 .lss 8 7]).seq ((C.cond (.t 9) C.skip (C.exit 0)).seq ((C.block 1 ((C.ops [MV 10 8,MV 5 10]).seq ((C.ops [MV 11 1,MV 12 0,MV 13 5,O2 14 (.idxA 1) 12 13,LD 15 14,BI 16 .eql 11 15]).seq (C.cond (.t 16) ((C.ops [MV 17 5,MV 4 17]).seq C.ret) C.skip)))).seq (C.ops [BC 18 .add 8 (i6 1),MV 8 18])))).loop)).seq ((C.ops [MC 4 (i6 (-1))]).seq C.ret)))
def cIF(z:Nat)(m:Option Nat):C:=
 ((C.ops [MC 4 (i6 0)]).seq (((C.ops [MV 6 0,O1 7 .len 6,MC 8 (i6 0)]).seq (C.block 0 ((C.ops [BI 9 .lss 8 7]).seq ((C.cond (.t 9) C.skip (C.exit 0)).seq ((C.block 1 ((C.ops [MV 10 8,MV 5 10]).seq ((C.ops [MV 11 1,MV 12 0,MV 13 5,O2 14 (.idxA z) 12 13,O1 15 (.load m) 14,O2 16 .callv 11 15]).seq (C.cond (.t 16) ((C.ops [MV 17 5,MV 4 17]).seq C.ret) C.skip)))).seq (C.ops [BC 18 .add 8 (i6 1),MV 8 18])))).loop)).seq ((C.ops [MC 4 (i6 (-1))]).seq C.ret)))
def cCT(g:Nat):C:=((C.ops [MC 4 (.bool false)]).seq ((C.ops [MV 5 0,MV 6 1,O2 7 (.call g true) 5 6,BC 8 .geq 7 (i6 0),MV 4 8]).seq C.ret))
def cEQ:C:=
 ((C.ops [MC 4 (.bool false)]).seq (((C.ops [MV 6 0,O1 7 .len 6,MV 8 1,O1 9 .len 8,BI 10 .neq 7 9]).seq (C.cond (.t 10) ((C.ops [MC 4 (.bool false)]).seq C.ret) C.skip)).seq (((C.ops [MV 11 0,O1 12 .len 11,MC 13 (i6 0)]).seq (C.block 0 ((C.ops [BI 14 .lss 13 12]).seq ((C.cond (.t 14) C.skip (C.exit 0)).seq ((C.block 1 ((C.ops [MV 15 13,MV 5 15]).seq ((C.ops [MV 16 0,MV 17 5,O2 18 (.idxA 1) 16 17,LD 19 18,MV 20 1,MV 21 5,O2 22 (.idxA 1) 20 21,LD 23 22,BI 24 .neq 19 23]).seq (C.cond (.t 24) ((C.ops [MC 4 (.bool false)]).seq C.ret) C.skip)))).seq (C.ops [BC 25 .add 13 (i6 1),MV 13 25])))).loop)).seq ((C.ops [MC 4 (.bool true)]).seq C.ret))))
inductive At where
 |s (x:List UInt8)
 |i (n:Int)
 deriving DecidableEq
def At.v:At→AV
 | .s x=> .str x
 | .i n=> .int .i64 n
def At.k:At→Bool
 | .s _=>true
 | .i _=>false
theorem At.strip(a:At):a.v.strip=a.v:=by cases a<;>rfl
theorem At.flag(a:At):a.v.flag=true:=by cases a<;>rfl
theorem At.solid(a:At):a.v.solid=true:=by cases a<;>rfl
theorem At.eql{a b:At}(h:a.k=b.k):kM .eql a.v b.v=True∧qah .eql a.v b.v= .bool (decide (a=b)):=by
 cases a<;>cases b<;>simp_all [At.v,At.k,kM,qah]
theorem At.neq{a b:At}(h:a.k=b.k):kM .neq a.v b.v=True∧qah .neq a.v b.v= .bool (!decide (a=b)):=by
 cases a<;>cases b<;>simp_all [At.v,At.k,kM,qah]
set_option maxHeartbeats 1000000
theorem qx1{P:Program}{f:Nat}(hf:qI P f 19 0 [RV.tmp 4] cIX)(n:Nat)(g:Nat→At)(x:At)(h:List AObj)(hk: ∀i,i<n→x.k=(g i).k)(hn:n≤9223372036854775807):
  ACalls P f [.sl n (fun i=> [(g i).v]),x.v] h (.int .i64 (qbQ (fun i=>decide (x=g i)) n 0)) h:=by
 have s1:=x.strip;have s2:=x.flag;refine acO hf ?_;simp (disch:=omega) only[cIX,go_sem];refine qn (T:=fun i:Nat=>qM 19 [(0,.sl n (fun i=> [(g i).v])),(1,x.v),(6,.sl n (fun i=> [(g i).v])),(7,.int .i64 n),(8,.int .i64 i)]) (H:=fun _=>h) (inv:=fun i=>i≤n∧ ∀j,j<i→decide (x=g j)=false) (m:=fun i=>n-i) 0 ⟨nzl _,fun j hj=>by omega⟩ (Wk.temps ?_) ?_
 ·exact tmq
 rintro i ⟨i1,i2⟩ K hK
 by_cases hi:i<n
 ·have k1:((i:Int)<n)=True:=eqt om;obtain⟨e1,e2⟩:=At.eql (hk i hi);have f1:=(g i).strip;have f2:=(g i).flag
  by_cases g0:x=g i
  ·rw[dqt g0]at e2;have hV:=kl hi i2 (by rw[dqt g0]);rw[hV];simp (disch:=omega) only[s1,s2,k1,e1,e2,f1,f2,go_sem]
   repeat' first
    |(apply qc;exact rvk;simp only[go_sem];exact qi)
    |with_reducible apply aiA
   all_goals try exact clz
  ·rw[dqf g0]at e2;simp (disch:=omega) only[s1,s2,k1,e1,e2,f1,f2,go_sem]
   repeat' first
    |with_reducible apply aiA
   all_goals try exact clz
   refine hK _ _ (i+1) ⟨hi,fun j hj=> ?_⟩ om (Wk.temps ?_)
   ·by_cases e:j=i
    ·subst e;exact dqf g0
    ·exact i2 j om
   ·exact tmq
 ·have k1:((i:Int)<n)=False:=eqf om;have hV:=qaA (p:=fun i=>decide (x=g i)) (n:=n) (fun j hj=>i2 j om);rw[hV];simp (disch:=omega) only[s1,s2,k1,go_sem]
  repeat' first
   |(apply qc;exact rvk;simp only[go_sem];exact qi)
theorem qeJ{P:Program}{f z:Nat}{m:Option Nat}(hf:qI P f 19 0 [RV.tmp 4] (cIF z m))(n:Nat)(g:Nat→List AV)(e:Nat→AV)(q:Nat)(first cap:List AV)(p:Nat→Bool)(h:List AObj)
  (hg: ∀i,i<n→(g i).length=z∧jE (g i) 0 m∧cut (g i) 0 m=e i∧(e i).strip=e i∧(e i).flag=true) (hc: ∀i,i<n→ACalls P q (first++ [e i]++cap) h (.bool (p i)) h) (hn:n≤9223372036854775807):
  ACalls P f [.sl n g,.fn (.func q) first cap] h (.int .i64 (qbQ p n 0)) h:=by
 refine acO hf ?_;simp (disch:=omega) only[cIF,go_sem];refine qn (T:=fun i:Nat=>qM 19 [(0,.sl n g),(1,.fn (.func q) first cap),(6,.sl n g),(7,.int .i64 n),(8,.int .i64 i)]) (H:=fun _=>h) (inv:=fun i=>i≤n∧ ∀j,j<i→p j=false) (m:=fun i=>n-i) 0 ⟨nzl _,fun j hj=>by omega⟩ (Wk.temps ?_) ?_
 ·exact tmq
 rintro i ⟨i1,i2⟩ K hK
 by_cases hi:i<n
 ·have k1:((i:Int)<n)=True:=eqt om;obtain⟨e1,e2,e3,e4,e5⟩:=hg i hi;have e1:=eqt e1;have e2:=eqt e2;have c:=hc i hi;cases g0:p i with
  |true=>
   rw[g0]at c;have hV:=kl hi i2 g0;rw[hV];simp (disch:=omega) only[k1,e1,e2,e3,e4,e5,go_sem]
   repeat' first
    |(refine qu c ?_;simp (disch:=omega) only[go_sem])
    |(apply qc;exact rvk;simp only[go_sem];exact qi)
    |with_reducible apply aiA
   all_goals try exact clz
  |false=>
   rw[g0]at c;simp (disch:=omega) only[k1,e1,e2,e3,e4,e5,go_sem]
   repeat' first
    |(refine qu c ?_;simp (disch:=omega) only[go_sem])
    |with_reducible apply aiA
   all_goals try exact clz
   refine hK _ _ (i+1) ⟨hi,fun j hj=> ?_⟩ om (Wk.temps ?_)
   ·by_cases e:j=i
    ·subst e;exact g0
    ·exact i2 j om
   ·exact tmq
 ·have k1:((i:Int)<n)=False:=eqf om;have hV:=qaA (p:=p) (n:=n) (fun j hj=>i2 j om);rw[hV];simp (disch:=omega) only[k1,go_sem]
  repeat' first
   |(apply qc;exact rvk;simp only[go_sem];exact qi)
theorem qtX{P:Program}{f g:Nat}(hf:qI P f 9 0 [RV.tmp 4] (cCT g)){p:Nat→Bool}{n:Nat}{a b:AV}{h:List AObj}(ha:a.strip=a∧a.flag=true)(hb:b.strip=b∧b.flag=true)(hc:ACalls P g [a,b] h (.int .i64 (qbQ p n 0)) h):
  ACalls P f [a,b] h (.bool (zH p n)) h:=by
 obtain⟨a1,a2⟩:=ha;obtain⟨b1,b2⟩:=hb;unfold zH;have e0:strips [a,b]= [a,b]:=by simp[strips,a1,b1]
 rw[←e0]at hc;refine acO hf ?_;simp (disch:=omega) only[cCT,a1,a2,b1,b2,go_sem]
 repeat' first
  |(refine cA hc ?_ ?_;exact flk;simp (disch:=omega) only[go_sem])
  |(apply qc;exact rvk;simp only[go_sem];exact qi)
theorem qxC{P:Program}{f:Nat}(hf:qI P f 26 0 [RV.tmp 4] cEQ)(n m:Nat)(g k:Nat→At)(h:List AObj)(hk: ∀i,i<n→i<m→(g i).k=(k i).k)(hn:n≤9223372036854775807)(hm:m≤9223372036854775807):
  ACalls P f [.sl n (fun i=> [(g i).v]),.sl m (fun i=> [(k i).v])] h (.bool (decide (n=m∧ ∀i,i<n→g i=k i))) h:=by
 by_cases hnm:n=m
 ·subst hnm;refine acO hf ?_;simp (disch:=omega) only[cEQ,go_sem];refine qn (T:=fun i:Nat=>qM 26 [(0,.sl n (fun i=> [(g i).v])),(1,.sl n (fun i=> [(k i).v])),(12,.int .i64 n),(13,.int .i64 i)]) (H:=fun _=>h) (inv:=fun i=>i≤n∧ ∀j,j<i→g j=k j) (m:=fun i=>n-i) 0 ⟨nzl _,fun j hj=>by omega⟩ (Wk.temps ?_) ?_
  ·exact tmq
  rintro i ⟨i1,i2⟩ K hK
  by_cases hi:i<n
  ·have k1:((i:Int)<n)=True:=eqt om;obtain⟨e1,e2⟩:=At.neq (hk i hi hi);have f1:=(g i).strip;have f2:=(g i).flag;have f3:=(k i).strip;have f4:=(k i).flag
   by_cases g0:g i=k i
   ·rw[dqt g0]at e2;simp (disch:=omega) only[k1,e1,e2,f1,f2,f3,f4,go_sem]
    repeat' first
     |with_reducible apply aiA
    all_goals try exact clz
    refine hK _ _ (i+1) ⟨hi,fun j hj=> ?_⟩ om (Wk.temps ?_)
    ·by_cases e:j=i
     ·subst e;exact g0
     ·exact i2 j om
    ·exact tmq
   ·rw[dqf g0]at e2;rw[dqf (fun hc=>g0 (hc i hi))];simp (disch:=omega) only[k1,e1,e2,f1,f2,f3,f4,go_sem]
    repeat' first
     |(apply qc;exact rvk;simp only[go_sem];exact qi)
     |with_reducible apply aiA
    all_goals try exact clz
  ·have k1:((i:Int)<n)=False:=eqf om;rw[dqt (fun j hj=>i2 j om)];simp (disch:=omega) only[k1,go_sem]
   repeat' first
    |(apply qc;exact rvk;simp only[go_sem];exact qi)
 ·have k1:((n:Int)=m)=False:=eqf om;rw[dqf (fun hc=>hnm hc.1)];refine acO hf ?_;simp (disch:=omega) only[cEQ,k1,go_sem]
  repeat' first
   |(apply qc;exact rvk;simp only[go_sem];exact qi)
end AF
end
section
open Go Go.Proofs AF
def qrh:List Nat:= [212,155,87,342]
def qtb:C:=
 ((C.ops [MC 4 (i6 0),MC 5 .nilif]).seq ((C.ops [MV 6 0,O1 7 (.call 212 false) 6]).seq ((C.ops [MV 8 0,MV 9 0,O1 10 .nilchk 9,O1 11 (.fldA 1) 10,LD 12 11,MV 13 1,O2 14
 (.apps 0 5) 12 13,O1 15 .nilchk 8,O1 16 (.fldA 1) 15,ST 1 16 14]).seq ((C.ops [MV 17 1,O1 18 .slen 17,MV 4 18,MC 5 .nilif]).seq
 C.ret))))
theorem quu:qI Tryz.prog 155 19 1 [RV.tmp 4,RV.tmp 5] qtb:=fi Tryz.f155 [14] qrh []
end
section
namespace AF
open Go Go.RowKit
theorem Ext.ofBelow{w w':World}{σ:List OB}{h:List AObj}(H:HR w σ h)(hb:Below w.heap.size w w'):HR w' σ h∧Ext w σ w' σ:=by
 have e:Ext w σ w' σ:=⟨hb.os,hb.tape,hb.output,hb.size,fun b hl _=>hb.block b hl,fun _ h=> .inl h,fun _ o h=>⟨o,h,nlr _,fun _=>rfl⟩,
  fun b r h=>⟨r,(hb.block b (Array.getElem?_eq_some_iff.1 h).1).trans h⟩⟩
 exact⟨⟨H.len,H.inj,fun k o b h1 h2=>Nat.lt_of_lt_of_le (H.lt k o b h1 h2) hb.size,fun k a o h1 h2=>(H.obj k a o h1 h2).ext e (fun b h3=>hb.block b (H.lt k o b h2 h3))⟩,e⟩
theorem qsh{w:World}{σ:List OB}{n:Nat}{g:Nat→List UInt8}{x:Value}(h:VR w σ (.sl n fun i=> [.str (g i)]) x):
  (n=0∧ ∃a,x= .slice a 0 0)∨ ∃(b off cap:Nat),x= .slice (some ⟨b,off,none⟩) n cap∧n≤cap∧b<w.heap.size∧ ∀i,i<n→w.cell? ⟨b,off+i,none⟩=some (.string ⟨(g i).toArray⟩):=by
 rcases qee h with h|⟨sz,b,off,cap,vals,h1,h2,h3,h4,h5,h6,h7,h8,h9⟩
 ·exact .inl h
 ·refine .inr ⟨b,off,cap,h1,h2,h5,fun i hi=> ?_⟩;have hs:1=sz:=h6 i hi;subst hs;have hv:=h9 i 0 (.str (g i)) hi rfl;have hc:=h7 i 0 hi om;rw[Nat.mul_one,Nat.add_zero]at hc;rw[hc,z7 (σ:=σ) (.imm hv)]
end AF
end
section
namespace AF
open Go Go.ChangeShapes Go.WideShapes Go.ChangeAt Go.RowKit
def qkG:OB:=⟨none,0,0,0⟩
theorem qeR(b:Nat): ¬own [qkG] b:=by
 rintro⟨k,o,h,h2⟩;cases k with
 |zero=>simp at h;subst h;cases h2
 |succ k=>simp at h
theorem qvx{w:World}{bs:List Nat}{G:World→Prop}(hb: ∀b,b∈bs→ ∃arr T fz,w.heap[b]? =some (.cells arr T fz))(hG: ∀w':World,(∀b,b∈bs→w'.heap[b]? =w.heap[b]?)→G w'):
  HR w [qkG] [.pin bs G]:=by
 refine⟨rfl,?_,?_,?_⟩
 ·intro i j oi oj b hi hj bi;cases i with
  |zero=>simp at hi;subst hi;cases bi
  |succ i=>simp at hi
 ·intro k o b hk hb';cases k with
  |zero=>simp at hk;subst hk;cases hb'
  |succ k=>simp at hk
 ·intro k a o ha ho;cases k with
  |zero=>
   simp at ha ho;subst ha;subst ho;exact⟨rfl,rfl,fun b h=>⟨qeR b,hb b h⟩,hG⟩
  |succ k=>simp at ha
theorem qqS(w:World):Ext w [] w [qkG]:=
 ⟨rfl,rfl,rfl,nlr _,fun _ _ _=>rfl,fun b h=>absurd h (qeR b),fun k o h=>by simp at h,fun _ r h=>⟨r,h⟩⟩
theorem qhU{w w':World}{σ':List OB}(h:Ext w [qkG] w' σ'):Below w.heap.size w w':=⟨h.os,h.tape,h.output,h.size,fun k hk=>h.keep k hk (qeR k)⟩
theorem VRs.ext{w w':World}{σ σ':List OB}(h:Ext w σ w' σ'){avs:List AV}{xs:List Value}(hv:VRs w σ avs xs):VRs w' σ' avs xs:=⟨hv.1,fun i c x hc hx=>(hv.2 i c x hc hx).ext h⟩
theorem qvQ{w:World}{σ:List OB}{h:List AObj}{k:Nat}{bs:List Nat}{G:World→Prop}(H:HR w σ h)(hk:h[k]? =some (.pin bs G)):G w:=by
 have hl:k<σ.length:=by rw[H.len];exact (lgs.1 hk).1
 obtain⟨_,_,_,h4⟩:=H.obj k _ σ[k] hk (jr hl);exact h4 w (fun _ _=>rfl)
theorem qdQ{H:Type}{enc:TypeId×Value→H}{P:Program}{W:World}{f:Func}{fid:FuncId}{s:ChangeSpec}{args:Array Value}{ds gs:List (DataW H)}{before:List MemPlace}{tb:TypeId}{bs:List Nat}{G:World→Prop}
  (hl:laidOutB P=true) (hv:s.vars= []) (hfn: ∀ds',ds'.length=f.params.size→s.fn H ds'= { results:= [.lit (.bool true)],args:=ds' })
  (hrt:f.resultTypes= #[tb]) (htb:P.underlying tb=some .bool) (hro: ∀t∈f.params.toList,P.readableRec t=true∧t<P.types.size)
  (hW:DataW.Whole enc P f.params.toList s.vars false W args.toList ds gs before)
  (hb: ∀b,b∈bs→ ∃arr T fz,W.heap[b]? =some (.cells arr T fz)) (hG: ∀w':World,(∀b,b∈bs→w'.heap[b]? =W.heap[b]?)→G w')
  (hc: ∀p,DataW.TrodAll enc P W 0 (fun _=>true) true f.params.toList args.toList ds p→ds.length=f.params.size∧ ∃avs:List AV,VRs W [] avs args.toList∧ACalls P fid avs [.pin bs G] (.bool true) [.pin bs G]):
  Calls P fid args W fun e W'=> ∃v,e= .returned v∧s.post enc P f false true false false W args v W':=by
 have hW':=hW;obtain⟨p,q,hA,hV,rfl,hz,_⟩:=hW;rw[hv]at hV;obtain⟨rfl,rfl⟩:=trodVars_none hV;obtain⟨hlen,avs,h1,h2⟩:=hc p hA;rw[lan]at hW';have h3:=h2.2 W [qkG] args.toList (qvx hb hG) (h1.ext (qqS W));rw[Array.toArray_toList]at h3;refine (callsIn_wide.1 h3).mono ?_;rintro e W' ⟨v,σ',rfl,g1,g2,g3⟩;obtain rfl:=zW g2;exact⟨_,rfl,qnr hl hv (hfn ds hlen) hrt htb hro hW' hA (qhU g3)⟩
theorem qdg{P:Program}{w w':World}{name:String}{g:Nat}(hg:P.globalNamed name=some g)(h:w'.heap[g]? =w.heap[g]?):w'.var? P name=w.var? P name:=by
 unfold World.var?;rw[hg];simp only[Option.bind_some];rw[h]
theorem qb4{P:Program}{w:World}{name:String}{g:Nat}{cs:Array Value}(hg:P.globalNamed name=some g)(h:w.var? P name=some cs): ∃arr T fz,w.heap[g]? =some (.cells arr T fz):=by
 unfold World.var? at h;rw[hg]at h;simp only[Option.bind_some]at h;split at h
 ·rename_i cs T fz hc;exact⟨_,_,_,hc⟩
 ·cases h
end AF
end
section
namespace Go.Proofs
open Go.Shelf
def Tryz.laysM171_ren:Go.Shelf.Ren:=⟨fun|171=>86|243=>158|246=>214|283=>262|284=>263|285=>264|286=>265|129=>230|317=>294|318=>295|319=>296|320=>297|337=>312|338=>313|n=>n,fun|3=>3|9=>9|2=>2|4=>4|171=>268|0=>0|53=>164|37=>128|5=>5|173=>270|212=>288|51=>247|20=>20|213=>289|46=>210|232=>314|233=>315|n=>n,fun|17=>1|18=>4|19=>5|n=>n⟩
theorem Tryz.laysM171:Go.Proofs.LaysM.n171 Tryz.prog Tryz.laysM171_ren:= {
 mixed:=by kernel_rfl
 f129:=Tryz.func230.trans (congrArg some (by kernel_rfl))
 f171:=Tryz.func86.trans (congrArg some (by kernel_rfl))
 f243:=Tryz.func158.trans (congrArg some (by kernel_rfl))
 f246:=Tryz.func214.trans (congrArg some (by kernel_rfl))
 f283:=Tryz.func262.trans (congrArg some (by kernel_rfl))
 f284:=Tryz.func263.trans (congrArg some (by kernel_rfl))
 f285:=Tryz.func264.trans (congrArg some (by kernel_rfl))
 f286:=Tryz.func265.trans (congrArg some (by kernel_rfl))
 f317:=Tryz.func294.trans (congrArg some (by kernel_rfl))
 f318:=Tryz.func295.trans (congrArg some (by kernel_rfl))
 f319:=Tryz.func296.trans (congrArg some (by kernel_rfl))
 f320:=Tryz.func297.trans (congrArg some (by kernel_rfl))
 f337:=Tryz.func312.trans (congrArg some (by kernel_rfl))
 f338:=Tryz.func313.trans (congrArg some (by kernel_rfl))
 t0:=Tryz.underlying0
 a0:=Tryz.isAgg0
 z0:=Tryz.sizeOf0
 v0:=Tryz.zeroValue0
 t2:=Tryz.underlying2
 a2:=Tryz.isAgg2
 z2:=Tryz.sizeOf2
 v2:=Tryz.zeroValue2
 t3:=Tryz.underlying3
 a3:=Tryz.isAgg3
 z3:=Tryz.sizeOf3
 v3:=Tryz.zeroValue3
 t4:=Tryz.underlying4
 a4:=Tryz.isAgg4
 z4:=Tryz.sizeOf4
 v4:=Tryz.zeroValue4
 t5:=Tryz.underlying5
 a5:=Tryz.isAgg5
 z5:=Tryz.sizeOf5
 v5:=Tryz.zeroValue5
 t9:=Tryz.underlying9
 a9:=Tryz.isAgg9
 z9:=Tryz.sizeOf9
 v9:=Tryz.zeroValue9
 t20:=Tryz.underlying20
 a20:=Tryz.isAgg20
 z20:=Tryz.sizeOf20
 v20:=Tryz.zeroValue20
 t37:=Tryz.underlying128
 a37:=Tryz.isAgg128
 z37:=Tryz.sizeOf128
 v37:=Tryz.zeroValue128
 t46:=Tryz.underlying210
 a46:=Tryz.isAgg210
 z46:=Tryz.sizeOf210
 v46:=Tryz.zeroValue210
 t51:=Tryz.underlying247
 a51:=Tryz.isAgg247
 z51:=Tryz.sizeOf247
 v51:=Tryz.zeroValue247
 t53:=Tryz.underlying164
 a53:=Tryz.isAgg164
 z53:=Tryz.sizeOf164
 v53:=Tryz.zeroValue164
 t171:=Tryz.underlying268
 a171:=Tryz.isAgg268
 z171:=Tryz.sizeOf268
 v171:=Tryz.zeroValue268
 t173:=Tryz.underlying270
 a173:=Tryz.isAgg270
 z173:=Tryz.sizeOf270
 v173:=Tryz.zeroValue270
 t212:=Tryz.underlying288
 a212:=Tryz.isAgg288
 z212:=Tryz.sizeOf288
 v212:=Tryz.zeroValue288
 t213:=Tryz.underlying289
 a213:=Tryz.isAgg289
 z213:=Tryz.sizeOf289
 t232:=Tryz.underlying314
 a232:=Tryz.isAgg314
 z232:=Tryz.sizeOf314
 v232:=Tryz.zeroValue314
 t233:=Tryz.underlying315
 a233:=Tryz.isAgg315
 z233:=Tryz.sizeOf315
 v233:=Tryz.zeroValue315
 g17:=by kernel_rfl
 g18:=by kernel_rfl
 g19:=by kernel_rfl
 i0:=by kernel_rfl
 i2:=by kernel_rfl
 i3:=by kernel_rfl
 i4:=by kernel_rfl
 i5:=by kernel_rfl
 i9:=by kernel_rfl
 i20:=by kernel_rfl
 i37:=by kernel_rfl
 i46:=by kernel_rfl
 i51:=by kernel_rfl
 i53:=by kernel_rfl
 i171:=by kernel_rfl
 i173:=by kernel_rfl
 i212:=by kernel_rfl
 i232:=by kernel_rfl
 i233:=by kernel_rfl
 m17:=by kernel_rfl
 m18:=by kernel_rfl
 m19:=by kernel_rfl }
def Tryz.laysC172_ren:Go.Shelf.Ren:=⟨fun|172=>291|244=>309|245=>310|247=>317|279=>318|280=>319|281=>320|282=>321|287=>322|316=>323|171=>86|205=>324|321=>325|322=>326|243=>158|246=>214|283=>262|284=>263|285=>264|286=>265|129=>230|317=>294|318=>295|319=>296|320=>297|337=>312|338=>313|n=>n,fun|9=>9|3=>3|75=>192|76=>193|4=>4|5=>5|167=>308|37=>128|0=>0|85=>309|2=>2|168=>311|53=>164|175=>316|46=>210|210=>320|127=>197|145=>325|143=>323|21=>21|171=>268|173=>270|212=>288|51=>247|20=>20|213=>289|232=>314|233=>315|80=>137|n=>n,fun|15=>6|16=>7|17=>1|18=>4|19=>5|n=>n⟩
theorem Tryz.laysC172:Go.Proofs.LaysC.n172 Tryz.prog Tryz.laysC172_ren:= {
 mixed:=by kernel_rfl
 f129:=Tryz.func230.trans (congrArg some (by kernel_rfl))
 f171:=Tryz.func86.trans (congrArg some (by kernel_rfl))
 f172:=Tryz.func291.trans (congrArg some (by kernel_rfl))
 f205:=Tryz.func324.trans (congrArg some (by kernel_rfl))
 f243:=Tryz.func158.trans (congrArg some (by kernel_rfl))
 f244:=Tryz.func309.trans (congrArg some (by kernel_rfl))
 f245:=Tryz.func310.trans (congrArg some (by kernel_rfl))
 f246:=Tryz.func214.trans (congrArg some (by kernel_rfl))
 f247:=Tryz.func317.trans (congrArg some (by kernel_rfl))
 f279:=Tryz.func318.trans (congrArg some (by kernel_rfl))
 f280:=Tryz.func319.trans (congrArg some (by kernel_rfl))
 f281:=Tryz.func320.trans (congrArg some (by kernel_rfl))
 f282:=Tryz.func321.trans (congrArg some (by kernel_rfl))
 f283:=Tryz.func262.trans (congrArg some (by kernel_rfl))
 f284:=Tryz.func263.trans (congrArg some (by kernel_rfl))
 f285:=Tryz.func264.trans (congrArg some (by kernel_rfl))
 f286:=Tryz.func265.trans (congrArg some (by kernel_rfl))
 f287:=Tryz.func322.trans (congrArg some (by kernel_rfl))
 f316:=Tryz.func323.trans (congrArg some (by kernel_rfl))
 f317:=Tryz.func294.trans (congrArg some (by kernel_rfl))
 f318:=Tryz.func295.trans (congrArg some (by kernel_rfl))
 f319:=Tryz.func296.trans (congrArg some (by kernel_rfl))
 f320:=Tryz.func297.trans (congrArg some (by kernel_rfl))
 f321:=Tryz.func325.trans (congrArg some (by kernel_rfl))
 f322:=Tryz.func326.trans (congrArg some (by kernel_rfl))
 f337:=Tryz.func312.trans (congrArg some (by kernel_rfl))
 f338:=Tryz.func313.trans (congrArg some (by kernel_rfl))
 t0:=Tryz.underlying0
 a0:=Tryz.isAgg0
 z0:=Tryz.sizeOf0
 v0:=Tryz.zeroValue0
 t2:=Tryz.underlying2
 a2:=Tryz.isAgg2
 z2:=Tryz.sizeOf2
 v2:=Tryz.zeroValue2
 t3:=Tryz.underlying3
 a3:=Tryz.isAgg3
 z3:=Tryz.sizeOf3
 v3:=Tryz.zeroValue3
 t4:=Tryz.underlying4
 a4:=Tryz.isAgg4
 z4:=Tryz.sizeOf4
 v4:=Tryz.zeroValue4
 t5:=Tryz.underlying5
 a5:=Tryz.isAgg5
 z5:=Tryz.sizeOf5
 v5:=Tryz.zeroValue5
 t9:=Tryz.underlying9
 a9:=Tryz.isAgg9
 z9:=Tryz.sizeOf9
 v9:=Tryz.zeroValue9
 t20:=Tryz.underlying20
 a20:=Tryz.isAgg20
 z20:=Tryz.sizeOf20
 v20:=Tryz.zeroValue20
 t21:=Tryz.underlying21
 a21:=Tryz.isAgg21
 z21:=Tryz.sizeOf21
 v21:=Tryz.zeroValue21
 t37:=Tryz.underlying128
 a37:=Tryz.isAgg128
 z37:=Tryz.sizeOf128
 v37:=Tryz.zeroValue128
 t46:=Tryz.underlying210
 a46:=Tryz.isAgg210
 z46:=Tryz.sizeOf210
 v46:=Tryz.zeroValue210
 t51:=Tryz.underlying247
 a51:=Tryz.isAgg247
 z51:=Tryz.sizeOf247
 v51:=Tryz.zeroValue247
 t53:=Tryz.underlying164
 a53:=Tryz.isAgg164
 z53:=Tryz.sizeOf164
 v53:=Tryz.zeroValue164
 t75:=Tryz.underlying192
 a75:=Tryz.isAgg192
 z75:=Tryz.sizeOf192
 v75:=Tryz.zeroValue192
 t76:=Tryz.underlying193
 a76:=Tryz.isAgg193
 z76:=Tryz.sizeOf193
 v76:=Tryz.zeroValue193
 t85:=Tryz.underlying309
 a85:=Tryz.isAgg309
 z85:=Tryz.sizeOf309
 v85:=Tryz.zeroValue309
 t127:=Tryz.underlying197
 a127:=Tryz.isAgg197
 z127:=Tryz.sizeOf197
 v127:=Tryz.zeroValue197
 t143:=Tryz.underlying323
 a143:=Tryz.isAgg323
 z143:=Tryz.sizeOf323
 v143:=Tryz.zeroValue323
 t145:=Tryz.underlying325
 a145:=Tryz.isAgg325
 z145:=Tryz.sizeOf325
 v145:=Tryz.zeroValue325
 t167:=Tryz.underlying308
 a167:=Tryz.isAgg308
 z167:=Tryz.sizeOf308
 v167:=Tryz.zeroValue308
 t168:=Tryz.underlying311
 a168:=Tryz.isAgg311
 z168:=Tryz.sizeOf311
 v168:=Tryz.zeroValue311
 t171:=Tryz.underlying268
 a171:=Tryz.isAgg268
 z171:=Tryz.sizeOf268
 v171:=Tryz.zeroValue268
 t173:=Tryz.underlying270
 a173:=Tryz.isAgg270
 z173:=Tryz.sizeOf270
 v173:=Tryz.zeroValue270
 t175:=Tryz.underlying316
 a175:=Tryz.isAgg316
 z175:=Tryz.sizeOf316
 v175:=Tryz.zeroValue316
 t210:=Tryz.underlying320
 a210:=Tryz.isAgg320
 z210:=Tryz.sizeOf320
 v210:=Tryz.zeroValue320
 t212:=Tryz.underlying288
 a212:=Tryz.isAgg288
 z212:=Tryz.sizeOf288
 v212:=Tryz.zeroValue288
 t213:=Tryz.underlying289
 a213:=Tryz.isAgg289
 z213:=Tryz.sizeOf289
 t232:=Tryz.underlying314
 a232:=Tryz.isAgg314
 z232:=Tryz.sizeOf314
 v232:=Tryz.zeroValue314
 t233:=Tryz.underlying315
 a233:=Tryz.isAgg315
 z233:=Tryz.sizeOf315
 v233:=Tryz.zeroValue315
 g15:=by kernel_rfl
 g16:=by kernel_rfl
 g17:=by kernel_rfl
 g18:=by kernel_rfl
 g19:=by kernel_rfl
 t80:=Tryz.underlying137
 a80:=Tryz.isAgg137
 z80:=Tryz.sizeOf137
 v80:=Tryz.zeroValue137
 i0:=by kernel_rfl
 i2:=by kernel_rfl
 i3:=by kernel_rfl
 i4:=by kernel_rfl
 i5:=by kernel_rfl
 i9:=by kernel_rfl
 i20:=by kernel_rfl
 i21:=by kernel_rfl
 i37:=by kernel_rfl
 i46:=by kernel_rfl
 i51:=by kernel_rfl
 i53:=by kernel_rfl
 i75:=by kernel_rfl
 i76:=by kernel_rfl
 i80:=by kernel_rfl
 i85:=by kernel_rfl
 i127:=by kernel_rfl
 i143:=by kernel_rfl
 i145:=by kernel_rfl
 i167:=by kernel_rfl
 i168:=by kernel_rfl
 i171:=by kernel_rfl
 i173:=by kernel_rfl
 i175:=by kernel_rfl
 i210:=by kernel_rfl
 i212:=by kernel_rfl
 i232:=by kernel_rfl
 i233:=by kernel_rfl
 m15:=by kernel_rfl
 m16:=by kernel_rfl
 m17:=by kernel_rfl
 m18:=by kernel_rfl
 m19:=by kernel_rfl
 c0:=by kernel_rfl
 c2:=by kernel_rfl
 c3:=by kernel_rfl
 c4:=by kernel_rfl
 c5:=by kernel_rfl
 c9:=by kernel_rfl
 c20:=by kernel_rfl
 c21:=by kernel_rfl
 c37:=by kernel_rfl
 c46:=by kernel_rfl
 c51:=by kernel_rfl
 c53:=by kernel_rfl
 c75:=by kernel_rfl
 c76:=by kernel_rfl
 c80:=by kernel_rfl
 c85:=by kernel_rfl
 c127:=by kernel_rfl
 c143:=by kernel_rfl
 c145:=by kernel_rfl
 c167:=by kernel_rfl
 c168:=by kernel_rfl
 c171:=by kernel_rfl
 c173:=by kernel_rfl
 c175:=by kernel_rfl
 c210:=by kernel_rfl
 c212:=by kernel_rfl
 c213:=by kernel_rfl
 c232:=by kernel_rfl
 c233:=by kernel_rfl }
end Go.Proofs
end
section
set_option linter.all false
set_option linter.unusedSimpArgs false
set_option linter.unusedVariables false
set_option linter.unusedSectionVars false
set_option linter.unusedVariables false
namespace Go.Proofs
open Go.Shelf Go.RowKit
set_option maxHeartbeats 1000000 in
set_option maxRecDepth 100000 in
theorem qnl(s:ByteArray)(c:Int)(w:World):
  Calls Tryz.prog 280 #[.string s,.int .u8 c] w fun e w'=>e= .returned (.int .i64 (Lib.indexByte s.data.toList c.toNat.toUInt8))∧w'=w:=by
 go_enter Tryz.func280,Tryz.ntmps280
 go_wp2
 rw[run_callFunc_extern Tryz.func302 (by kernel_rfl) (by kernel_rfl) (by kernel_rfl) (e:=Extern.BytealgIndexByte.indexByte) (by kernel_rfl)];rw[Lib.run_indexByteString];simp only[Result.andThen];rw[Oper.upon_value]
 go_wp2
 all_goals (go_ret;exact⟨rfl,rfl⟩)
end Go.Proofs
end
section
open Go Go.Proofs AF
def zn:List Nat:= []
def qgj:C:=
 ((C.ops [MC 2 (.bool false)]).seq ((C.ops [MV 3 0,O1 4 .slen 3,BC 5 .leq 4 (i6 16),MV 6 5,MG 7 6 true 0,P1 8 6 true (.call 216 true) 7,PF 9 6 8,MV 10 9,MG 11 10 true 0,P1
 12 10 true (.call 217 true) 11,MG 13 10 true 0,P1 14 10 true .slen 13,P2 15 10 true (.bin .eql) 12 14,PF 16 10 15,MV 2 16]).seq
 C.ret))
theorem qdE:qI Tryz.prog 166 17 0 [RV.tmp 2] qgj:=fi Tryz.f166 [] zn []
def qiK:C:=
 ((C.ops [MC 2 (.bool false)]).seq ((C.ops [MV 3 0,BC 4 .neq 3 (.str []),MV 5 4,MG 6 5 true 0,P1 7 5 true .slen 6,PC 8 5 true (.bin .leq) 7 (i6 16),PF 9 5 8,MV 10 9,MG 11 10
 true 0,P1 12 10 true (.call 242 true) 11,MG 13 10 true 0,P1 14 10 true .slen 13,P2 15 10 true (.bin .eql) 12 14,PF 16 10 15,MV 2 16]).seq
 C.ret))
theorem qfB:qI Tryz.prog 186 17 0 [RV.tmp 2] qiK:=fi Tryz.f186 [] zn []
def qgk:C:=
 ((C.ops [MC 2 (.bool false)]).seq (((C.ops [MV 5 0,O1 6 .slen 5,BC 7 .lss 6 (i6 1),MV 8 7,MG 9 8 false 0,P1 10 8 false .slen 9,PC 11 8 false (.bin .gtr) 10 (i6 64),PT 12 8
 11,MV 13 12,MG 14 13 false 0,P1 15 13 false (.call 266 true) 14,PC 16 13 false (.bin .neq) 15 (i6 0),PT 17 13 16]).seq (C.cond (.t 17) ((C.ops [MC 2 (.bool false)]).seq C.ret)
 C.skip)).seq (((C.ops [MV 18 0,OC 19 .sidx 18 (i6 0),O1 20 (.call 257 true) 19,MV 3 20]).seq ((C.ops [MV 21 3,BC 22 .neq 21 (i6 1),MV 23 22,MG 24 23 true 3,PC 25 23 true
 (.bin .neq) 24 (i6 3),PF 26 23 25]).seq (C.cond (.t 26) ((C.ops [MC 2 (.bool false)]).seq C.ret) C.skip))).seq (((C.ops [MC 4 (i6 0)]).seq (C.block 0 (((C.ops [MV 27 4,MV 28 0,
 O1 29 .slen 28,BI 30 .lss 27 29]).seq (C.cond (.t 30) C.skip (C.exit 0))).seq ((C.block 1 ((C.ops [MV 33 0,MV 34 4,O2 35 .sidx 33 34,O1 36 (.call 257 true) 35,BC 37 .gtr 36
 (i6 4)]).seq (C.cond (.t 37) ((C.ops [MC 2 (.bool false)]).seq C.ret) C.skip))).seq (C.ops [MV 31 4,BC 32 .add 31 (i6 1),MV 4 32]))).loop)).seq ((C.ops [MC 2 (.bool true)]).seq
 C.ret)))))
theorem qdF:qI Tryz.prog 216 38 0 [RV.tmp 2] qgk:=fi Tryz.f216 [] zn []
def qtl:C:=
 ((C.ops [MC 2 (i6 0)]).seq ((C.ops [MC 3 (i6 0)]).seq (((C.ops [MC 4 (i6 0)]).seq (C.block 0 (((C.ops [MV 6 4,MV 7 0,O1 8 .slen 7,BI 9 .lss 6 8]).seq (C.cond (.t 9) C.skip
 (C.exit 0))).seq ((C.block 1 ((C.ops [MV 12 0,MV 13 4,O2 14 .sidx 12 13,O1 15 (.call 257 true) 14,MV 5 15]).seq ((C.ops [MV 16 5,BC 17 .eql 16 (i6 1),MV 18 17,MG 19 18 false
 5,PC 20 18 false (.bin .eql) 19 (i6 3),PT 21 18 20]).seq (C.cond (.t 21) (C.ops [MV 22 3,BC 23 .add 22 (i6 1),MV 3 23]) C.skip)))).seq (C.ops [MV 10 4,BC 11 .add 10 (i6 1),MV
 4 11]))).loop)).seq ((C.ops [MV 24 3,MV 2 24]).seq
 C.ret))))
theorem quF:qI Tryz.prog 217 25 0 [RV.tmp 2] qtl:=fi Tryz.f217 [] zn []
def qtr:C:=
 ((C.ops [MC 2 (i6 0)]).seq ((C.ops [MC 3 (i6 0)]).seq (((C.ops [MV 6 0,O1 7 .slen 6,MC 8 (i6 0)]).seq (C.block 0 ((C.ops [BI 9 .lss 8 7]).seq ((C.cond (.t 9) C.skip (C.exit
 0)).seq ((C.block 1 ((C.ops [MV 10 8,MV 4 10]).seq ((C.ops [MV 11 0,MV 12 4,O2 13 .sidx 11 12,O1 14 (.call 285 true) 13,MV 5 14]).seq ((C.ops [MV 15 5,BC 16 .eql 15 (i6 1),
 MV 17 16,MG 18 17 false 5,PC 19 17 false (.bin .eql) 18 (i6 3),PT 20 17 19]).seq (C.cond (.t 20) (C.ops [MV 21 3,BC 22 .add 21 (i6 1),MV 3 22]) C.skip))))).seq (C.ops [BC 23
 .add 8 (i6 1),MV 8 23])))).loop)).seq ((C.ops [MV 24 3,MV 2 24]).seq
 C.ret))))
theorem quL:qI Tryz.prog 242 25 0 [RV.tmp 2] qtr:=fi Tryz.f242 [] zn []
def qp6:C:=
 ((C.ops [MC 2 (i6 0)]).seq (((C.ops [MV 6 0,O1 7 .slen 6,BC 8 .gtr 7 (i6 65536)]).seq (C.cond (.t 8) ((C.ops [MC 2 (i6 4)]).seq C.ret) C.skip)).seq ((C.ops [MV 9 0,O1 10 (.call
 298 true) 9,MV 3 10]).seq (((C.ops [MC 4 (i6 0)]).seq (C.block 0 (((C.ops [MV 11 4,MV 12 0,O1 13 .slen 12,BI 14 .lss 11 13]).seq (C.cond (.t 14) C.skip (C.exit 0))).seq
 ((C.block 1 ((C.ops [MV 17 0,MV 18 4,O2 19 .sidx 17 18,O1 20 (.call 257 true) 19,MV 5 20]).seq ((C.ops [MV 21 5,BC 22 .eql 21 (i6 0),MV 23 22,MG 24 23 false 5,PC 25 23
 false (.bin .eql) 24 (i6 2),MG 26 23 false 25,MG 27 26 true 3,MG 28 26 true 4,P2 29 26 true (.idxA 1) 27 28,P1 30 26 true (.load none) 29,P1 31 26 true (.un UnOp.not) 30,QF
 32 23 false 26 31,PT 33 23 32]).seq (C.cond (.t 33) ((C.ops [MC 2 (i6 11)]).seq C.ret) C.skip)))).seq (C.ops [MV 15 4,BC 16 .add 15 (i6 1),MV 4 16]))).loop)).seq ((C.ops [MC 2
 (i6 0)]).seq
 C.ret)))))
theorem qpa:qI Tryz.prog 266 34 0 [RV.tmp 2] qp6:=fi Tryz.f266 [] zn []
def qtx:C:=
 ((C.ops [MC 2 (i6 0)]).seq ((C.block 0 ((C.ops [MV 4 0,BC 5 .geq 4 (.int .u8 97),MV 6 5,MG 7 6 true 0,PC 8 6 true (.bin .leq) 7 (.int .u8 122),PF 9 6 8,MV 10 9,MG 11 10
 false 0,PC 12 10 false (.bin .geq) 11 (.int .u8 65),MG 13 10 false 12,MG 14 13 true 0,PC 15 13 true (.bin .leq) 14 (.int .u8 90),QF 16 10 false 13 15,PT 17 10 16,MV 3
 17]).seq (C.cond (.t 3) ((C.ops [MC 2 (i6 1)]).seq C.ret) ((C.ops [MV 19 0,BC 20 .eql 19 (.int .u8 94),MV 21 20,MG 22 21 false 0,PC 23 21 false (.bin .eql) 22 (.int .u8 126),
 PT 24 21 23,MV 25 24,MG 26 25 false 0,PC 27 25 false (.bin .eql) 26 (.int .u8 37),PT 28 25 27,MV 18 28]).seq (C.cond (.t 18) ((C.ops [MC 2 (i6 2)]).seq C.ret) ((C.ops [MV 30
 0,BC 31 .geq 30 (.int .u8 48),MV 32 31,MG 33 32 true 0,PC 34 32 true (.bin .leq) 33 (.int .u8 57),PF 35 32 34,MV 29 35]).seq (C.cond (.t 29) ((C.ops [MC 2 (i6 3)]).seq C.ret)
 ((C.ops [MV 37 0,BC 38 .eql 37 (.int .u8 39),MV 36 38]).seq (C.cond (.t 36) ((C.ops [MC 2 (i6 4)]).seq C.ret) ((C.ops [MV 40 0,BC 41 .eql 40 (.int .u8 46),MV 42 41,MG 43 42
 false 0,PC 44 42 false (.bin .eql) 43 (.int .u8 44),PT 45 42 44,MV 46 45,MG 47 46 false 0,PC 48 46 false (.bin .eql) 47 (.int .u8 59),PT 49 46 48,MV 50 49,MG 51 50 false 0,
 PC 52 50 false (.bin .eql) 51 (.int .u8 58),PT 53 50 52,MV 54 53,MG 55 54 false 0,PC 56 54 false (.bin .eql) 55 (.int .u8 33),PT 57 54 56,MV 58 57,MG 59 58 false 0,PC 60 58
 false (.bin .eql) 59 (.int .u8 63),PT 61 58 60,MV 62 61,MG 63 62 false 0,PC 64 62 false (.bin .eql) 63 (.int .u8 40),PT 65 62 64,MV 66 65,MG 67 66 false 0,PC 68 66 false
 (.bin .eql) 67 (.int .u8 41),PT 69 66 68,MV 70 69,MG 71 70 false 0,PC 72 70 false (.bin .eql) 71 (.int .u8 45),PT 73 70 72,MV 39 73]).seq (C.cond (.t 39) ((C.ops [MC 2 (i6
 5)]).seq C.ret) ((C.ops [MV 75 0,BC 76 .eql 75 (.int .u8 32),MV 74 76]).seq (C.cond (.t 74) ((C.ops [MC 2 (i6 6)]).seq C.ret) C.skip))))))))))))).seq ((C.ops [MC 2 (i6 0)]).seq
 C.ret)))
theorem quT:qI Tryz.prog 257 77 0 [RV.tmp 2] qtx:=fi Tryz.f257 [] zn []
def qtD:C:=
 ((C.ops [MC 2 (i6 0)]).seq ((C.block 0 ((C.ops [MV 4 0,BC 5 .geq 4 (.int .u8 97),MV 6 5,MG 7 6 true 0,PC 8 6 true (.bin .leq) 7 (.int .u8 122),PF 9 6 8,MV 10 9,MG 11 10
 false 0,PC 12 10 false (.bin .geq) 11 (.int .u8 65),MG 13 10 false 12,MG 14 13 true 0,PC 15 13 true (.bin .leq) 14 (.int .u8 90),QF 16 10 false 13 15,PT 17 10 16,MV 3
 17]).seq (C.cond (.t 3) ((C.ops [MC 2 (i6 1)]).seq C.ret) ((C.ops [MV 19 0,BC 20 .eql 19 (.int .u8 94),MV 21 20,MG 22 21 false 0,PC 23 21 false (.bin .eql) 22 (.int .u8 126),
 PT 24 21 23,MV 25 24,MG 26 25 false 0,PC 27 25 false (.bin .eql) 26 (.int .u8 37),PT 28 25 27,MV 18 28]).seq (C.cond (.t 18) ((C.ops [MC 2 (i6 2)]).seq C.ret) ((C.ops [MV 30
 0,BC 31 .geq 30 (.int .u8 48),MV 32 31,MG 33 32 true 0,PC 34 32 true (.bin .leq) 33 (.int .u8 57),PF 35 32 34,MV 29 35]).seq (C.cond (.t 29) ((C.ops [MC 2 (i6 3)]).seq C.ret)
 ((C.ops [MV 37 0,BC 38 .eql 37 (.int .u8 39),MV 36 38]).seq (C.cond (.t 36) ((C.ops [MC 2 (i6 4)]).seq C.ret) ((C.ops [MV 40 0,BC 41 .eql 40 (.int .u8 32),MV 39 41]).seq
 (C.cond (.t 39) ((C.ops [MC 2 (i6 6)]).seq C.ret) ((C.ops [MV 43 0,BC 44 .neq 43 (.int .u8 0),MV 45 44,MG 46 45 true 0,PN 47 45 true (.call 305 true) [.c (.str [46,44,59,58,
 33,63,40,41,45]),.t 46],PC 48 45 true (.bin .geq) 47 (i6 0),PF 49 45 48,MV 42 49]).seq (C.cond (.t 42) ((C.ops [MC 2 (i6 5)]).seq C.ret) C.skip))))))))))))).seq ((C.ops [MC
 2 (i6 0)]).seq
 C.ret)))
theorem quZ:qI Tryz.prog 285 50 0 [RV.tmp 2] qtD:=fi Tryz.f285 [] zn []
def qtG:C:=
 ((C.ops [ON 2 (.nilo 0 1 4) []]).seq ((C.ops [⟨some 5,none,.bslc 1 1 0 4 [.bool false] [],[]⟩,MV 3 5]).seq (((C.ops [MC 4 (i6 0)]).seq (C.block 0 (((C.ops [MV 6 4,MV 7 0,O1 8
 .slen 7,BI 9 .lss 6 8]).seq (C.cond (.t 9) C.skip (C.exit 0))).seq ((C.block 1 (C.ops [MV 12 3,MV 13 0,MV 14 4,O2 15 .sidx 13 14,O1 16 (.call 257 true) 15,BC 17 .eql 16 (i6
 2),MV 18 17,MG 19 18 true 4,PC 20 18 true (.bin .gtr) 19 (i6 0),PF 21 18 20,MV 22 21,MG 23 22 true 0,MG 24 22 true 4,PC 25 22 true (.bin .sub) 24 (i6 1),P2 26 22 true
 .sidx 23 25,P1 27 22 true (.call 257 true) 26,PC 28 22 true (.bin .eql) 27 (i6 1),MG 29 22 true 28,MG 30 29 false 3,MG 31 29 false 4,PC 32 29 false (.bin .sub) 31 (i6 1),P2
 33 29 false (.idxA 1) 30 32,P1 34 29 false (.load none) 33,QT 35 22 true 29 34,PF 36 22 35,⟨some 37,none,.bslc 2 1 1 4 [.bool false] [(0,1)],[.t 36]⟩,O2 38 (.app 3 1 4 1)
 12 37,MV 3 38])).seq (C.ops [MV 10 4,BC 11 .add 10 (i6 1),MV 4 11]))).loop)).seq ((C.ops [MV 39 3,MV 2 39]).seq
 C.ret))))
theorem qu3:qI Tryz.prog 298 40 4 [RV.tmp 2] qtG:=fi Tryz.f298 [2,5,37,38] zn []
def qtI:C:=
 ((C.ops [MC 4 (i6 0)]).seq ((C.ops [MV 5 0,MV 6 1,O2 7 (.call 280 true) 5 6,MV 4 7]).seq
 C.ret))
theorem qu5:qI Tryz.prog 305 8 0 [RV.tmp 4] qtI:=fi Tryz.f305 [] zn []
def qiO:C:=
 ((C.ops [MC 2 (.bool false)]).seq (((C.ops [MV 4 0,BC 5 .eql 4 (.str []),MV 6 5,MG 7 6 false 0,P1 8 6 false .slen 7,PC 9 6 false (.bin .gtr) 8 (i6 64),PT 10 6 9,MV 11 10,MG
 12 11 false 0,P1 13 11 false (.call 288 true) 12,PC 14 11 false (.bin .neq) 13 (i6 0),PT 15 11 14]).seq (C.cond (.t 15) ((C.ops [MC 2 (.bool false)]).seq C.ret) C.skip)).seq
 (((C.ops [MV 16 0,OC 17 .sidx 16 (i6 0),O1 18 (.call 285 true) 17,MV 3 18]).seq ((C.ops [MV 19 3,BC 20 .neq 19 (i6 1),MV 21 20,MG 22 21 true 3,PC 23 21 true (.bin .neq) 22
 (i6 3),PF 24 21 23]).seq (C.cond (.t 24) ((C.ops [MC 2 (.bool false)]).seq C.ret) C.skip))).seq ((C.ops [MV 25 0,O1 26 .s2b 25,OC 27 (.call 289 true) 26 (.fn (Fn.func 290) []
 []),O1 28 (.un UnOp.not) 27,MV 2 28]).seq
 C.ret))))
theorem qfE:qI Tryz.prog 247 29 0 [RV.tmp 2] qiO:=fi Tryz.f247 [] zn []
def qqa:C:=
 ((C.ops [⟨some 2,none,.alloc 0 35 [i6 0],[]⟩]).seq (((C.ops [MV 6 0,O1 7 .slen 6,BC 8 .gtr 7 (i6 65536)]).seq (C.cond (.t 8) ((C.ops [⟨none,none,.store 1,[.t 2,.c (i6
 4)]⟩]).seq C.ret) C.skip)).seq (((C.ops [MV 9 0,O1 10 (.call 307 true) 9]).seq (C.block 0 (C.range (.t 10) [11,12] (C.ops [MV 4 12]) (C.block 1 ((C.ops [MV 13 4,OC 14 .sidx 13
 (i6 0),O1 15 (.call 285 true) 14,MV 5 15]).seq ((C.ops [MV 16 5,BC 17 .eql 16 (i6 0),MV 18 17,MG 19 18 false 5,PC 20 18 false (.bin .eql) 19 (i6 2),PT 21 18 20]).seq (C.cond
 (.t 21) ((C.ops [⟨none,none,.store 1,[.t 2,.c (i6 11)]⟩]).seq C.ret) C.skip))))))).seq ((C.ops [⟨none,none,.store 1,[.t 2,.c (i6 0)]⟩]).seq
 C.ret))))
theorem qpe:qI Tryz.prog 288 22 1 [RV.cell 2 none] qqa:=fi Tryz.f288 [2] zn []
def qtE:C:=
 ((C.ops [MC 4 (.bool false)]).seq ((C.ops [MV 5 0,MV 6 1,O2 7 (.call 308 true) 5 6,BC 8 .geq 7 (i6 0),MV 4 8]).seq
 C.ret))
theorem qu0:qI Tryz.prog 289 9 0 [RV.tmp 4] qtE:=fi Tryz.f289 [] zn []
def qtF:C:=
 ((C.ops [MC 2 (.bool false)]).seq ((C.ops [MV 4 0,O1 5 (.call 285 true) 4,MV 3 5]).seq ((C.ops [MV 6 3,BC 7 .eql 6 (i6 5),MV 8 7,MG 9 8 false 3,PC 10 8 false (.bin .eql) 9
 (i6 6),PT 11 8 10,MV 2 11]).seq
 C.ret)))
theorem qu1:qI Tryz.prog 290 12 0 [RV.tmp 2] qtF:=fi Tryz.f290 [] zn []
def qtJ:C:=
 ((C.ops [O1 1 (.box 0 9) 0,MC 2 .nilfn]).seq ((C.ops [O1 3 (.mkfn (Fn.func 315) 0) 1,MV 2 3]).seq
 C.ret))
theorem qu6:qI Tryz.prog 307 4 1 [RV.tmp 2] qtJ:=fi Tryz.f307 [1] zn []
def qtK:C:=
 ((C.ops [MC 4 (i6 0)]).seq (((C.ops [MV 6 0,O1 7 .len 6,MC 8 (i6 0)]).seq (C.block 0 ((C.ops [BI 9 .lss 8 7]).seq ((C.cond (.t 9) C.skip (C.exit 0)).seq ((C.block 1 ((C.ops [MV
 10 8,MV 5 10]).seq ((C.ops [MV 11 1,MV 12 0,MV 13 5,O2 14 (.idxA 1) 12 13,LD 15 14,O2 16 .callv 11 15]).seq (C.cond (.t 16) ((C.ops [MV 17 5,MV 4 17]).seq C.ret)
 C.skip)))).seq (C.ops [BC 18 .add 8 (i6 1),MV 8 18])))).loop)).seq ((C.ops [MC 4 (i6 (-1))]).seq
 C.ret)))
theorem qu7:qI Tryz.prog 308 19 0 [RV.tmp 4] qtK:=fi Tryz.f308 [] zn []
def qqc:C:=
 ((C.ops [MC 4 (.bool false)]).seq ((C.ops [MV 5 0,O1 6 .slen 5,MV 7 1,O1 8 .slen 7,BI 9 .geq 6 8,MV 10 9,MG 11 10 true 0,MG 12 10 true 0,P1 13 10 true .slen 12,MG 14 10
 true 1,P1 15 10 true .slen 14,P2 16 10 true (.bin .sub) 13 15,P2 17 10 true (.sslc true false) 11 16,MG 18 10 true 1,P2 19 10 true (.bin .eql) 17 18,PF 20 10 19,MV 4
 20]).seq
 C.ret))
theorem qpg:qI Tryz.prog 304 21 0 [RV.tmp 4] qqc:=fi Tryz.f304 [] zn []
def qtL:C:=
 ((C.ops [MC 3 (i6 0)]).seq ((C.ops [MC 4 (i6 1)]).seq (C.block 0 (((C.ops [MV 5 4,LD 6 1,O1 7 .slen 6,BI 8 .leq 5 7]).seq (C.cond (.t 8) C.skip (C.exit 0))).seq ((C.block 1
 (((C.ops [MV 11 4,LD 12 1,O1 13 .slen 12,BI 14 .lss 11 13,MV 15 14,P1 16 15 true (.load none) 1,MG 17 15 true 4,P2 18 15 true .sidx 16 17,P1 19 15 true (.call 285 true) 18,
 PC 20 15 true (.bin .eql) 19 (i6 2),PF 21 15 20,MV 22 21,P1 23 22 true (.load none) 1,MG 24 22 true 3,MG 25 22 true 4,PN 26 22 true (.call 316 true) [.t 23,.t 24,.t 25],PF
 27 22 26]).seq (C.cond (.t 27) (C.exit 1) C.skip)).seq (((C.ops [MV 28 0,MV 29 3,LD 30 1,MV 31 3,MV 32 4,ON 33 (.sslc true true) [.t 30,.t 31,.t 32],ON 34 .callv [.t 28,.t
 29,.t 33],O1 35 (.un UnOp.not) 34]).seq (C.cond (.t 35) C.ret C.skip)).seq (C.ops [MV 36 4,MV 3 36])))).seq (C.ops [MV 9 4,BC 10 .add 9 (i6 1),MV 4
 10]))).loop)))
theorem qu8:qI Tryz.prog 315 37 0 [] qtL:=fi Tryz.f315 [] zn []
def qtM:C:=
 ((C.ops [MC 6 (.bool false)]).seq ((C.ops [MV 7 0,MV 8 1,O2 9 .sidx 7 8,O1 10 (.call 285 true) 9,BC 11 .eql 10 (i6 1),MV 12 11,MG 13 12 true 2,MG 14 12 true 1,P2 15 12 true
 (.bin .gtr) 13 14,PF 16 12 15,MV 6 16]).seq
 C.ret))
theorem qu9:qI Tryz.prog 316 17 0 [RV.tmp 6] qtM:=fi Tryz.f316 [] zn []
end
section
namespace HY
def qdP(n:Int):Int:=
 if (97≤n∧n≤122)∨(65≤n∧n≤90) then 1
 else if n=94∨n=126∨n=37 then 2
 else if 48≤n∧n≤57 then 3
 else if n=39 then 4
 else if n=32 then 6
 else if n=46∨n=44∨n=59∨n=58∨n=33∨n=63∨n=40∨n=41∨n=45 then 5
 else 0
def kind(b:UInt8):Int:=qdP b.toNat
def ch(s:List UInt8)(i:Nat):UInt8:=s.getD i 0
theorem jx(s:List UInt8)(i:Nat):(s[i]?).getD 0=ch s i:=by rw[ch,gdqA]
def kh(frm:Nat)(cur:List UInt8):List UInt8→List (Nat×List UInt8)
 | []=> [(frm,cur)]
 |c::r=>if kind c=2∧kind (ch cur 0)=1 then kh frm (cur++ [c]) r else (frm,cur)::kh (frm+cur.length) [c] r
def qY:List UInt8→List (Nat×List UInt8)
 | []=> []
 |c::r=>kh 0 [c] r
def qej(s:List UInt8):List (List UInt8):=(qY s).map (·.2)
theorem qmF(frm:Nat)(cur r:List UInt8):kh frm cur r≠ []:=by
 induction r generalizing frm cur with
 |nil=>simp[kh]
 |cons c r ih=>simp only[kh];split;exact ih _ _;simp
theorem qjc{frm:Nat}{cur r:List UInt8}(hc:cur≠ []): ∀x∈kh frm cur r,x.2≠ []:=by
 induction r generalizing frm cur with
 |nil=>intro x hx;simp[kh]at hx;subst hx;exact hc
 |cons c r ih=>
  intro x hx;simp only[kh]at hx;split at hx
  ·exact ih (by simp) x hx
  ·rcases List.mem_cons.1 hx with rfl|hx
   ·exact hc
   ·exact ih (by simp) x hx
theorem qqv{s:List UInt8}: ∀x∈qej s,x≠ []:=by
 cases s with
 |nil=>intro x hx;simp[qej,qY]at hx
 |cons c r=>
  intro x hx;simp only[qej,qY,List.mem_map]at hx;obtain⟨y,hy,rfl⟩:=hx;exact qjc (by simp) y hy
def zg(s:List UInt8):Nat→Bool
 |0=>false
 |i+1=>decide (kind (ch s (i+1))=2)&&(decide (kind (ch s i)=1)||zg s i)
def qbl(s:List UInt8):List Bool:=(List.range s.length).map (zg s)
theorem qcD{s:List UInt8}{i:Nat}(h:i<s.length):(qbl s).getD i false=zg s i:=by simp[qbl,gdqA,h]
def qbf(s:List UInt8)(f i:Nat):Prop:=f<i∧(decide (kind (ch s (i-1))=1)||zg s (i-1))=decide (kind (ch s f)=1)
theorem qbg{s:List UInt8}{f i:Nat}(h:qbf s f i):zg s i=(decide (kind (ch s i)=2)&&decide (kind (ch s f)=1)):=by
 obtain⟨h1,h2⟩:=h;cases i with
 |zero=>omega
 |succ i=>simp only[zg];rw[←h2];rfl
theorem qdL(s:List UInt8):qbf s 0 1:=⟨om,by simp[zg]⟩
theorem qjU{s:List UInt8}{f i:Nat}(h:qbf s f i)(hr:zg s i=true):qbf s f (i+1):=by
 have h3:=qbg h;rw[hr]at h3;refine⟨by have:=h.1;omega,?_⟩;rw[Nat.add_sub_cancel,hr,Bool.or_true];symm at h3;simp only[Bool.and_eq_true]at h3;exact h3.2.symm
theorem qgM{s:List UInt8}{f i:Nat}(h:qbf s f i)(hr:zg s i=false):qbf s i (i+1):=
 ⟨om,by rw[Nat.add_sub_cancel,hr,Bool.or_false]⟩
def zi(c:List UInt8):Bool:=decide (kind (ch c 0)=0)||decide (kind (ch c 0)=2)
def qal(s:List UInt8):Int:=if 65536<s.length then 4 else if (qej s).any zi then 11 else 0
def kT(s:List UInt8):Bool:=
 decide (0<s.length)&&decide (s.length≤64)&&decide (qal s=0)&&(decide (kind (ch s 0)=1)||decide (kind (ch s 0)=3))&& !(s.any fun c=>decide (kind c=5)||decide (kind c=6))
end HY
end
section
namespace HY
def qpl(s p:List UInt8):Bool:=decide (s.drop (s.length-p.length)=p)
def qan(s:List UInt8)(i:Nat):Bool:=decide (kind (ch s i)=0)||(decide (kind (ch s i)=2)&& !zg s i)
end HY
end
section
set_option linter.all false
set_option linter.unusedSimpArgs false
set_option linter.unusedVariables false
set_option linter.unusedSectionVars false
open Go Go.Proofs AF HY
namespace HY
def strs(l:List (List UInt8)):AV:= .sl l.length fun i=> [.str (l.getD i [])]
theorem qsN {P : Program} {f : FuncId} {fn : Func} (h : P.funcs[f]? = some fn) (h1 : fn.body.isSome = true) (h2 : (fn.name != "runtime.NumGoroutine") = true) : okF P f = true := by
 unfold okF;rw[h];simp[h1,h2]
theorem qAb(s:List UInt8)(c:Int)(h:List AObj):ACalls Tryz.prog 280 [.str s,.int .u8 c] h (.int .i64 (Go.Lib.indexByte s c.toNat.toUInt8)) h:=by
 refine⟨qsN Tryz.func280 (by kernel_rfl) (by kernel_rfl),fun w σ xs H hv=> ?_⟩;obtain⟨x,y,rfl,hx,hy⟩:=hv.two;rw[z7 hx,qV hy];refine (callsIn_wide.2 (qnl ⟨s.toArray⟩ c w)).mono ?_;rintro e w' ⟨rfl,rfl⟩;exact⟨_,σ,rfl,H,.imm .int,Ext.refl _ _⟩
theorem qz9(s:List UInt8)(c:Int)(h:List AObj):ACalls Tryz.prog 305 [.str s,.int .u8 c] h (.int .i64 (Go.Lib.indexByte s c.toNat.toUInt8)) h:=by
 refine qt qu5 (by simp) ?_;simp only[lco,lnl,Nat.reduceAdd,Nat.reduceSub,List.replicate,lca,lna,lan];simp (disch:=omega) only[qtI,go_sem,ql,dvP,mdP]
 repeat' first
  |(refine qw (qAb s c _) ?_ ?_;exact flk;simp (disch:=omega) only[go_sem,ql,dvP,mdP])
  |(apply qc;exact rvk;simp only[go_sem];exact qi)
theorem qkI: ∀n:Fin 256,(0≤Go.Lib.indexByte [46,44,59,58,33,63,40,41,45] (UInt8.ofNat n.val))↔(n.val=46∨n.val=44∨n.val=59∨n.val=58∨n.val=33∨n.val=63∨n.val=40∨n.val=41∨n.val=45):=by decide+kernel
theorem qy7(n:Int)(h:List AObj)(n0:0≤n)(n1:n≤255):ACalls Tryz.prog 285 [.int .u8 n] h (.int .i64 (qdP n)) h:=by
 obtain⟨m,rfl⟩: ∃m:Nat,n=m:=⟨n.toNat,om⟩
 have hp:=qkI ⟨m,om⟩;simp only at hp;obtain⟨q,hq⟩: ∃q,q=Go.Lib.indexByte [46,44,59,58,33,63,40,41,45] (UInt8.ofNat m):=⟨_,rfl⟩
 rw[←hq]at hp;have hc: ∀h,ACalls Tryz.prog 305 [.str [46,44,59,58,33,63,40,41,45],.int .u8 (m:Int)] h (.int .i64 q) h:=fun h=>by rw[hq];exact qz9 _ _ h
 refine qt quZ (by simp) ?_;simp only[lco,lnl,Nat.reduceAdd,Nat.reduceSub,List.replicate,lca,lna,lan];simp (disch:=omega) only[qtD,go_sem,ql,dvP,mdP]
 repeat' first
  |(refine qE (fun e=>⟨?_,hc _⟩) ?_;exact flk;simp (disch:=omega) only[go_sem,ql,dvP,mdP])
  |(apply qc;exact rvk;simp only[go_sem];apply qf)
  |with_reducible first|intro _|apply aiA
 all_goals first
  |omega
  |(unfold qdP;(repeat' split)<;>omega)
theorem qy9(n:Int)(h:List AObj):ACalls Tryz.prog 257 [.int .u8 n] h (.int .i64 (qdP n)) h:=by
 refine qt quT (by simp) ?_;simp only[lco,lnl,Nat.reduceAdd,Nat.reduceSub,List.replicate,lca,lna,lan];simp (disch:=omega) only[qtx,go_sem,ql,dvP,mdP]
 repeat' first
  |(apply qc;exact rvk;simp only[go_sem];apply qf)
  |with_reducible first|intro _|apply aiA
 all_goals first
  |omega
  |grind [qdP]
end HY
end
section
set_option linter.all false
set_option linter.unusedSimpArgs false
set_option linter.unusedVariables false
set_option linter.unusedSectionVars false
open Go Go.Proofs AF HY
namespace HY
theorem _root_.AF.LowI.ret{h hh:List AObj}{ts:List AV}{L:LInfo}(s:LS)(hl:LowI h hh)(hts: ∀c∈ts,jb (h.length+1) c=true):
  (hh++ [AObj.lp s ts L]).length=(h++ [AObj.lp .ready ts L]).length∧ ∀o∈hh++ [AObj.lp s ts L],o∈h++ [AObj.lp .ready ts L]∨qao (h++ [AObj.lp .ready ts L]).length o:=by
 refine⟨by simp[hl.1],fun o ho=> ?_⟩;rw[lap,List.length_singleton];rcases List.mem_append.1 ho with ho|ho
 ·rcases hl.2 o ho with h1|h1
  ·exact .inl (List.mem_append_left _ h1)
  ·exact .inr h1.2
 ·rw[List.mem_singleton]at ho;subst ho;exact .inr hts
theorem qf6(b:UInt8):0≤((b.toNat:Nat):Int)∧((b.toNat:Nat):Int)≤255:=by
 have:=b.toNat_lt
 omega
theorem qdd(b:UInt8)(h:List AObj):ACalls Tryz.prog 285 [.int .u8 (b.toNat:Int)] h (.int .i64 (kind b)) h:=qy7 _ h (qf6 b).1 (qf6 b).2
theorem qb1(b:UInt8)(h:List AObj):ACalls Tryz.prog 257 [.int .u8 (b.toNat:Int)] h (.int .i64 (kind b)) h:=qy9 _ h
theorem qbM{s:List UInt8}{f i:Nat}(hf:f<i)(hi:i<s.length):kh f ((s.drop f).take (i-f)) (s.drop i)=if kind (ch s i)=2∧kind (ch s f)=1 then kh f ((s.drop f).take (i+1-f)) (s.drop (i+1)) else (f,(s.drop f).take (i-f))::kh i ((s.drop i).take (i+1-i)) (s.drop (i+1)):=by
 have e1:s.drop i=ch s i::s.drop (i+1):=by rw[List.drop_eq_getElem_cons hi];simp[ch,hi]
 have e2:ch ((s.drop f).take (i-f)) 0=ch s f:=by simp[ch,gdqA,List.getElem?_take,show 0<i-f by omega]
 have e3:(s.drop f).take (i+1-f)=(s.drop f).take (i-f)++ [ch s i]:=by
  rw[show i+1-f=(i-f)+1 by omega,List.take_add_one,List.getElem?_drop,show f+(i-f)=i by omega];simp[ch,gdqA,hi]
 have e4:f+((s.drop f).take (i-f)).length=i:=by rw[List.length_take,List.length_drop];omega
 have e5:(s.drop i).take (i+1-i)= [ch s i]:=by rw[e1,show i+1-i=1 by omega];rfl
 rw[e5,e1];simp only[kh,e2,e4,e3]
end HY
end
section
set_option linter.all false
set_option linter.unusedSimpArgs false
set_option linter.unusedVariables false
set_option linter.unusedSectionVars false
open Go Go.Proofs AF HY
namespace HY
def qbJ(l:List Bool):AV:= .sl l.length fun i=> [.bool (l.getD i false)]
theorem qpw{cs:List AV}{n m k:Nat}{f:Nat→List AV}{fz:Nat→Bool}{h:List AObj}(e:cs.length=m)(ek:k=m)(hf: ∀i c,cs[i]? =some c→f i= [c])(hr: ∀c∈cs,rei fz h (n+1) c=c):VLe (.sl m fun i=>((List.drop i cs).take 1).map (rei fz h (n+1))) (.sl k f):=by
 subst e ek;refine qsV rfl (fun i hi=> ?_);rw[List.drop_eq_getElem_cons hi,hf i cs[i] (jr hi)];show [rei fz h (n+1) cs[i]]=_;rw[hr cs[i] (List.getElem_mem hi)]
def zZ(l:List (List UInt8)):List AV:=l.map .str
theorem zO(l:List (List UInt8)):(zZ l).length=l.length:=by simp[zZ]
theorem qfe{l:List (List UInt8)}{n m:Nat}{fz:Nat→Bool}{h:List AObj}(e:l.length=m):VLe (.sl m fun i=>((List.drop i (zZ l)).take 1).map (rei fz h (n+1))) (strs l):=by
 subst e;refine qpw (zO l) rfl (fun i c hc=> ?_) (fun c hc=> ?_)
 ·unfold zZ at hc;rw[List.getElem?_map,Option.map_eq_some_iff]at hc;obtain⟨x,hx,rfl⟩:=hc;simp[gdqA,hx]
 ·unfold zZ at hc;rw[List.mem_map]at hc;obtain⟨x,_,rfl⟩:=hc;rfl
def j9(s:List UInt8)(i:Nat):List AV:=(List.range i).map fun j=>AV.bool (zg s j)
theorem qbZ(s:List UInt8)(i:Nat):j9 s (i+1)=j9 s i++ [.bool (zg s i)]:=by simp[j9,List.range_succ]
theorem qa5(s:List UInt8)(i:Nat):(j9 s i).length=i:=by simp[j9]
theorem t95(s:List UInt8)(h:List AObj)(hs:s.length≤1000000000):ACalls Tryz.prog 298 [.str s] h (qbJ (qbl s)) h:=by
 refine qt qu3 (by simp) ?_;simp only[lco,lnl,Nat.reduceAdd,Nat.reduceSub,List.replicate,lca,lna,lan];simp (disch:=omega) only[qtG,qQ,go_sem,ql,dvP,mdP]
 all_goals first
  |omega
  |(simp;done)
  |skip
 refine qn (T:=fun i:Nat×Nat×AObj=>qM 40 [(0,.str s),(3,.osl (h.length+1) i.2.1 1 0 i.1),(4,.int .i64 i.1)]) (H:=fun i=>h++ [.emp 1,.mem i.2.1 4 (j9 s i.1),i.2.2,.emp 0])
  (inv:=fun i=>i.1≤s.length∧qP [i.2.2] 0=true) (m:=fun i=>s.length-i.1) (0,1,.emp 0) ⟨by simp only;omega,rfl⟩ (Wk.temps ?_) ?_
 ·(simp only[qM,List.foldl,go_sem,qh,qe,qb,qg];try (repeat' first|(with_reducible apply aiA)|(apply qf;omega)|(apply qd;rfl)|exact qi))
 ·rintro⟨i,v,O⟩ ⟨i1,i2⟩ K hK;simp only at i1 i2 hK;have i2': ∀m,qP (O::m) 0=true:=fun _=>i2
  have eL:=qa5 s i;have eT:List.take i (j9 s i)=j9 s i:=ltl om
  by_cases hi:i<s.length
  ·cases i with
   |zero=>
    have hz:(((0:Nat):Int)<(s.length:Int))=True:=eqt om;have hz0:((0:Nat):Int)=0:=rfl;have hlt:((0:Int)<0)=False:=eqf om;have hc0:j9 s 0= []:=rfl;have hz1:((0:Int)<(s.length:Int))=True:=eqt om;have hR:zg s 0=false:=rfl
    by_cases hk0:kind (ch s 0)=2
    all_goals
     simp (disch:=omega) only[qM,List.foldl,jx,i2',qQ,hz0,hlt,hc0,hz1,hk0,go_sem,ql,dvP,mdP]
     repeat' first
      |(refine qj ((.int .i64 0)) ?_;simp (disch:=omega) only[jx,i2',qQ,hz0,hlt,hc0,hk0,go_sem,ql,dvP,mdP])
      |(refine qw (qb1 _ _) ?_ ?_;exact flk;simp (disch:=omega) only[jx,i2',qQ,hz0,hlt,hc0,hk0,go_sem,ql,dvP,mdP])
      |with_reducible first|intro _|apply aiA
     all_goals try exact clz
     refine hK _ _ (0+1,v+1,.mem (qr (some O)+1) 4 [.bool (zg s 0)]) ⟨by simp only;omega,rfl⟩ (by simp only;omega) ?_;rw[qbZ];simp only[hR,hc0,lna];refine Wk.temps ?_
     (simp only[qM,List.foldl,go_sem,qh,qe,qb,qg];try (repeat' first|(with_reducible apply aiA)|(apply qf;omega)|(apply qd;rfl)|exact qi))
   |succ i=>
    have hx:(((i+1:Nat):Int)-1).toNat=i:=by omega
    have hg:(j9 s (i+1))[i]? =some (.bool (zg s i)):=by simp[j9]
    have hp:(0<((i+1:Nat):Int))=True:=eqt om;simp (disch:=omega) only[qM,List.foldl,jx,i2',eL,eT,qQ,hx,hg,hp,go_sem,ql,dvP,mdP]
    repeat' first
     |(refine qw (qb1 _ _) ?_ ?_;exact flk;simp (disch:=omega) only[jx,i2',eL,eT,qQ,hx,hg,hp,go_sem,ql,dvP,mdP])
     |(refine qE (fun e=>⟨?_,qb1 _ _⟩) ?_;exact flk;simp (disch:=omega) only[jx,i2',eL,eT,qQ,hx,hg,hp,go_sem,ql,dvP,mdP])
     |(apply qa;exact rvk;simp only[go_sem])
     |with_reducible first|intro _|apply aiA
    all_goals first
     |omega
     |(simp;done)
     |skip
    refine hK _ _ (i+1+1,v+1,.mem (qr (some O)+1) 4 [.bool (zg s (i+1))]) ⟨by simp only;omega,rfl⟩ (by simp only;omega) ?_;rw[qbZ s (i+1)];simp only[zg];refine Wk.temps ?_
    (simp only[qM,List.foldl,go_sem,qh,qe,qb,qg];try (repeat' first|(with_reducible apply aiA)|(apply qf;omega)|(apply qd;rfl)|exact qi))
  ·have e:i=s.length:=by omega
   subst e;simp (disch:=omega) only[qM,List.foldl,eL,go_sem,ql,dvP,mdP]
   repeat' first
    |(apply qa;exact rvk;simp only[go_sem])
    |with_reducible first|intro _|apply aiA
   all_goals first
    |omega
    |skip
   have hrl:(qbl s).length=s.length:=by simp[qbl]
   unfold qbJ;rw[ipo om];refine qpw (qa5 s _) hrl (fun i c hc=> ?_) (fun c hc=> ?_)
   ·have hi:=(lgs.1 hc).1;rw[qa5]at hi;rw[qcD hi];simp[j9,hi]at hc;rw[hc]
   ·simp[j9]at hc;obtain⟨x,_,rfl⟩:=hc;rfl
end HY
end
section
set_option linter.all false
set_option linter.unusedSimpArgs false
set_option linter.unusedVariables false
set_option linter.unusedSectionVars false
open Go Go.Proofs AF HY
namespace HY
theorem qb6(s:List UInt8){f i:Nat}(h:f≤i)(hi:i<s.length):(s.drop f).take (i+1-f)=(s.drop f).take (i-f)++ [ch s i]:=by
 rw[show i+1-f=(i-f)+1 by omega,List.take_add_one,List.getElem?_drop,show f+(i-f)=i by omega];simp[ch,gdqA,hi]
theorem qpr(s:List UInt8){i:Nat}(hi:i<s.length):(s.drop i).take (i+1-i)= [ch s i]:=by
 rw[qb6 s (nlr _) hi,Nat.sub_self];rfl
def done(s:List UInt8)(D:List (List UInt8))(f i:Nat):Prop:=qbf s f i∧i≤s.length∧qej s=D++(kh f ((s.drop f).take (i-f)) (s.drop i)).map (·.2)
theorem qgw{s:List UInt8}(h:0<s.length):done s [] 0 1:=by
 refine⟨qdL s,h,?_⟩;cases s with
 |nil=>simp at h
 |cons c r=>simp[qej,qY]
end HY
end
section
set_option linter.all false
set_option linter.unusedSimpArgs false
set_option linter.unusedVariables false
set_option linter.unusedSectionVars false
open Go Go.Proofs AF HY
namespace HY
theorem qjb{s:List UInt8}: ∀(k:Nat) {f i:Nat},s.length-i=k→qbf s f i→i≤s.length→zi ((s.drop f).take (i-f))=zi [ch s f]→
  ((kh f ((s.drop f).take (i-f)) (s.drop i)).map (·.2)).any zi=(zi [ch s f]||(List.range' i (s.length-i)).any (qan s)):=by
 intro k
 induction k with
 |zero=>
  intro f i hk hc hi hb;have e:i=s.length:=by omega
  subst e;rw[List.drop_length,Nat.sub_self];simp[kh,hb]
 |succ k ih=>
  intro f i hk hc hi hb;have hi':i<s.length:=by omega
  rw[qbM hc.1 hi'];rw[show s.length-i=(s.length-(i+1))+1 by omega,List.range'_succ,List.any_cons];have hr:=qbg hc
  by_cases hg:kind (ch s i)=2∧kind (ch s f)=1
  ·rw[ipo hg];have hrt:zg s i=true:=by rw[hr];simp[hg]
   have hb2:zi ((s.drop f).take (i+1-f))=zi [ch s f]:=by
    rw[←hb];unfold zi;have e:ch ((s.drop f).take (i+1-f)) 0=ch ((s.drop f).take (i-f)) 0:=by
     have:=hc.1
     simp[ch,gdqA,List.getElem?_take,show 0<i-f by omega,show 0<i+1-f by omega]
    rw[e]
   rw[ih om (qjU hc hrt) hi' hb2]
   have:qan s i=false:=by unfold qan;rw[hrt,hg.1];rfl
   rw[this,Bool.false_or]
  ·rw[ine hg];have hrf:zg s i=false:=by
    rw[hr];cases h2:decide (kind (ch s i)=2)<;>cases h3:decide (kind (ch s f)=1)<;>simp_all
   simp only[List.map_cons,List.any_cons,hb];have h1:(s.drop i).take (i+1-i)= [ch s i]:=qpr s hi';rw[ih om (qgM hc hrf) hi' (by rw[h1])]
   have:qan s i=zi [ch s i]:=by unfold qan zi;rw[hrf];simp[ch]
   rw[this]
theorem qmG(s:List UInt8):(qej s).any zi=(List.range s.length).any (qan s):=by
 cases hs:s with
 |nil=>rfl
 |cons c r=>
  rw[←hs];have h0:0<s.length:=by rw[hs];simp
  have hd:=qgw h0;have h1:(s.drop 0).take (1-0)= [ch s 0]:=qpr s h0
  have:=qjb (s:=s) _ rfl hd.1 h0 (by rw[h1])
  rw[←lna ((kh 0 ((s.drop 0).take (1-0)) (s.drop 1)).map (·.2)),←hd.2.2]at this;rw[this,List.range_eq_range',show s.length=(s.length-1)+1 by omega,List.range'_succ,List.any_cons]
  have:qan s 0=zi [ch s 0]:=by unfold qan zi;simp[zg,ch]
  rw[this];simp
theorem qdw(s:List UInt8):qal s=if 65536<s.length then 4 else if (List.range s.length).any (qan s)=true then 11 else 0:=by unfold qal;rw[qmG]
theorem qaj{p:Nat→Bool}{n i:Nat}(hi:i<n)(h:p i=true):(List.range n).any p=true:=List.any_eq_true.2 ⟨i,by simpa using hi,h⟩
theorem kE{p:Nat→Bool}{n:Nat}(h: ∀i,i<n→p i=false):(List.range n).any p=false:=by
 rw[List.any_eq_false];intro i hi;simp at hi;rw[h i hi];simp
theorem qz8(s:List UInt8)(h:List AObj)(hs:s.length≤1000000000):ACalls Tryz.prog 266 [.str s] h (.int .i64 (qal s)) h:=by
 rw[qdw]
 by_cases hl:65536<s.length
 ·have hl':(65536<(s.length:Int))=True:=eqt om;rw[ipo hl];refine qt qpa (by simp) ?_;simp only[lco,lnl,Nat.reduceAdd,Nat.reduceSub,List.replicate,lca,lna,lan];simp (disch:=omega) only[qp6,hl',go_sem,ql,dvP,mdP]
  repeat' first
   |(apply qc;exact rvk;simp only[go_sem];exact qi)
 ·have hl':(65536<(s.length:Int))=False:=eqf om;rw[ine hl];refine qt qpa (by simp) ?_;simp only[lco,lnl,Nat.reduceAdd,Nat.reduceSub,List.replicate,lca,lna,lan];simp (disch:=omega) only[qp6,hl',go_sem,ql,dvP,mdP]
  repeat' first
   |(refine qw (t95 s _ hs) ?_ ?_;exact flk;simp (disch:=omega) only[hl',qbJ,go_sem,ql,dvP,mdP])
  refine qn (T:=fun i:Nat=>qM 34 [(0,.str s),(3,qbJ (qbl s)),(4,.int .i64 i)]) (H:=fun _=>h) (inv:=fun i=>i≤s.length∧ ∀j,j<i→qan s j=false) (m:=fun i=>s.length-i) 0 ⟨om,om⟩ (Wk.temps ?_) ?_
  ·(simp only[qbJ,qM,List.foldl,go_sem,qh,qe,qb,qg];try (repeat' first|(with_reducible apply aiA)|(apply qf;omega)|(apply qd;rfl)|exact qi))
  ·rintro i ⟨i1,i2⟩ K hK;have hrl:(qbl s).length=s.length:=by simp[qbl]
   by_cases hi:i<s.length
   ·have hg:=qcD hi
    by_cases hb:qan s i=true
    ·rw[ipo (qaj hi hb)];unfold qan at hb;simp (disch:=omega) only[qM,List.foldl,qbJ,hrl,hg,jx,go_sem,ql,dvP,mdP]
     repeat' first
      |(refine qw (qb1 _ _) ?_ ?_;exact flk;simp (disch:=omega) only[qbJ,hrl,hg,jx,go_sem,ql,dvP,mdP])
      |(apply qc;exact rvk;simp only[go_sem];first|exact qi|apply qf)
      |with_reducible first|intro _|apply aiA
     all_goals try exact clz
     all_goals
      refine hK _ _ (i+1) ⟨om,?_⟩ om (Wk.temps ?_)
      ·exfalso;grind
      ·(simp only[qbJ,hrl,qM,List.foldl,go_sem,qh,qe,qb,qg];try (repeat' first|(with_reducible apply aiA)|(apply qf;omega)|(apply qd;rfl)|exact qi))
    ·have hb':qan s i=false:=by simpa using hb
     unfold qan at hb;simp (disch:=omega) only[qM,List.foldl,qbJ,hrl,hg,jx,go_sem,ql,dvP,mdP]
     repeat' first
      |(refine qw (qb1 _ _) ?_ ?_;exact flk;simp (disch:=omega) only[qbJ,hrl,hg,jx,go_sem,ql,dvP,mdP])
      |(apply qc;exact rvk;simp only[go_sem];apply qf)
      |with_reducible first|intro _|apply aiA
     all_goals try exact clz
     all_goals first
      |(exfalso;grind)
      |skip
     all_goals
      refine hK _ _ (i+1) ⟨om,fun j hj=> ?_⟩ om (Wk.temps ?_)
      ·by_cases e:j=i
       ·subst e;exact hb'
       ·exact i2 j om
      ·(simp only[qbJ,hrl,qM,List.foldl,go_sem,qh,qe,qb,qg];try (repeat' first|(with_reducible apply aiA)|(apply qf;omega)|(apply qd;rfl)|exact qi))
   ·have e:i=s.length:=by omega
    subst e;rw[kE i2];simp (disch:=omega) only[qM,List.foldl,go_sem,ql,dvP,mdP]
    repeat' first
     |(apply qc;exact rvk;simp only[go_sem];exact qi)
     |with_reducible first|intro _|apply aiA
    all_goals try exact clz
end HY
end
section
set_option linter.all false
set_option linter.unusedSimpArgs false
set_option linter.unusedVariables false
set_option linter.unusedSectionVars false
open Go Go.Proofs AF HY
namespace HY
theorem qgP(b:UInt8):0≤kind b∧kind b≤6:=by
 unfold kind qdP
 (repeat' split)<;>omega
theorem qsZ(s:List UInt8)(p:UInt8→Bool):(List.range s.length).any (fun i=>p (ch s i))=s.any p:=by
 rw[Bool.eq_iff_iff,List.any_eq_true,List.any_eq_true];constructor
 ·rintro⟨i,hi,h⟩;simp at hi;refine⟨s[i],List.getElem_mem hi,?_⟩;simpa[ch,hi] using h
 ·rintro⟨x,hx,h⟩;obtain⟨i,hi,rfl⟩:=List.mem_iff_getElem.1 hx;exact⟨i,by simpa using hi,by simpa[ch,hi] using h⟩
def spc(c:UInt8):Bool:=decide (kind c=5)||decide (kind c=6)
theorem qbS(s:List UInt8):kT s=(decide (0<s.length)&&decide (s.length≤64)&&decide (qal s=0)&&(decide (kind (ch s 0)=1)||decide (kind (ch s 0)=3))&& !((List.range s.length).any fun i=>spc (ch s i))):=by
 rw[qsZ];rfl
theorem t93(s:List UInt8)(h:List AObj)(hs:s.length≤1000000000):ACalls Tryz.prog 216 [.str s] h (.bool (kT s)) h:=by
 obtain⟨c,hc⟩: ∃c,c=qal s:=⟨_,rfl⟩
 have h118: ∀h:List AObj,ACalls Tryz.prog 266 [.str s] h (.int .i64 c) h:=fun h=>by rw[hc];exact qz8 s h hs
 rw[qbS,←hc]
 by_cases g0:0<s.length∧s.length≤64∧c=0∧(kind (ch s 0)=1∨kind (ch s 0)=3)
 ·obtain⟨g1,g2,g3,g4⟩:=g0;have e:(decide (0<s.length)&&decide (s.length≤64)&&decide (c=0)&&(decide (kind (ch s 0)=1)||decide (kind (ch s 0)=3)))=true:=by simp[g1,g2,g3,g4]
  rw[e,Bool.true_and];have k1:((s.length:Int)<1)=False:=eqf om;have k2:(64<(s.length:Int))=False:=eqf om;refine qt qdF (by simp) ?_;simp only[lco,lnl,Nat.reduceAdd,Nat.reduceSub,List.replicate,lca,lna,lan];simp (disch:=omega) only[qgk,k1,k2,go_sem,ql,dvP,mdP]
  repeat' first
   |(refine qw (qb1 _ _) ?_ ?_;exact flk;simp (disch:=omega) only[k1,k2,g3,jx,go_sem,ql,dvP,mdP])
   |(refine qE (fun e=>⟨?_,h118 _⟩) ?_;exact flk;simp (disch:=omega) only[k1,k2,g3,jx,go_sem,ql,dvP,mdP])
   |(apply qc;exact rvk;simp only[go_sem];apply qd)
   |with_reducible first|intro _|apply aiA
  all_goals try exact clz
  refine qn (T:=fun i:Nat=>qM 38 [(0,.str s),(4,.int .i64 i)]) (H:=fun _=>h) (inv:=fun i=>i≤s.length∧ ∀j,j<i→spc (ch s j)=false) (m:=fun i=>s.length-i) 0 ⟨om,om⟩ (Wk.temps ?_) ?_
  ·(simp only[qM,List.foldl,go_sem,qh,qe,qb,qg];try (repeat' first|(with_reducible apply aiA)|(apply qf;omega)|(apply qd;rfl)|exact qi))
  ·rintro i ⟨i1,i2⟩ K hK
   by_cases hi:i<s.length
   ·have hr:=qgP (ch s i);cases hb:spc (ch s i)with
    |true=>
     rw[qaj hi hb];unfold spc at hb;have hk:(4<kind (ch s i))=True:=eqt (by grind);simp (disch:=omega) only[qM,List.foldl,jx,go_sem,ql,dvP,mdP]
     repeat' first
      |(refine qw (qb1 _ _) ?_ ?_;exact flk;simp (disch:=omega) only[jx,hk,go_sem,ql,dvP,mdP])
      |(apply qc;exact rvk;simp only[go_sem];first|exact qi|apply qd)
      |with_reducible first|intro _|apply aiA
     all_goals try exact clz
    |false=>
     have hk:(4<kind (ch s i))=False:=eqf (by unfold spc at hb;grind);simp (disch:=omega) only[qM,List.foldl,jx,go_sem,ql,dvP,mdP]
     repeat' first
      |(refine qw (qb1 _ _) ?_ ?_;exact flk;simp (disch:=omega) only[jx,hk,go_sem,ql,dvP,mdP])
      |(apply qc;exact rvk;simp only[go_sem];apply qd)
      |with_reducible first|intro _|apply aiA
     all_goals try exact clz
     refine hK _ _ (i+1) ⟨om,fun j hj=> ?_⟩ om (Wk.temps ?_)
     ·by_cases e:j=i
      ·subst e;exact hb
      ·exact i2 j om
     ·(simp only[qM,List.foldl,go_sem,qh,qe,qb,qg];try (repeat' first|(with_reducible apply aiA)|(apply qf;omega)|(apply qd;rfl)|exact qi))
   ·have e:i=s.length:=by omega
    subst e;rw[kE i2];simp (disch:=omega) only[qM,List.foldl,go_sem,ql,dvP,mdP]
    repeat' first
     |(apply qc;exact rvk;simp only[go_sem];exact qi)
     |with_reducible first|intro _|apply aiA
    all_goals try exact clz
 ·have e:(decide (0<s.length)&&decide (s.length≤64)&&decide (c=0)&&(decide (kind (ch s 0)=1)||decide (kind (ch s 0)=3)))=false:=by
   rw[Bool.eq_false_iff];intro h;simp only[Bool.and_eq_true,Bool.or_eq_true,decide_eq_true_eq]at h;exact g0 ⟨h.1.1.1,h.1.1.2,h.1.2,h.2⟩
  rw[e,Bool.false_and]
  by_cases g1:0<s.length
  ·by_cases g2:s.length≤64
   ·have k1:((s.length:Int)<1)=False:=eqf om;have k2:(64<(s.length:Int))=False:=eqf om
    by_cases g3:c=0
    ·have g4: ¬kind (ch s 0)=1∧ ¬kind (ch s 0)=3:=by
      constructor
      ·intro h;exact g0 ⟨g1,g2,g3,.inl h⟩
      ·intro h;exact g0 ⟨g1,g2,g3,.inr h⟩
     have g5:=g4.1;have g6:=g4.2;refine qt qdF (by simp) ?_;simp only[lco,lnl,Nat.reduceAdd,Nat.reduceSub,List.replicate,lca,lna,lan];simp (disch:=omega) only[qgk,k1,k2,go_sem,ql,dvP,mdP]
     repeat' first
      |(refine qw (qb1 _ _) ?_ ?_;exact flk;simp (disch:=omega) only[k1,k2,g3,jx,g5,g6,go_sem,ql,dvP,mdP])
      |(refine qE (fun e=>⟨?_,h118 _⟩) ?_;exact flk;simp (disch:=omega) only[k1,k2,g3,jx,g5,g6,go_sem,ql,dvP,mdP])
      |(apply qc;exact rvk;simp only[go_sem];exact qi)
      |with_reducible apply aiA
     all_goals try exact clz
    ·refine qt qdF (by simp) ?_;simp only[lco,lnl,Nat.reduceAdd,Nat.reduceSub,List.replicate,lca,lna,lan];simp (disch:=omega) only[qgk,k1,k2,go_sem,ql,dvP,mdP]
     repeat' first
      |(refine qE (fun e=>⟨?_,h118 _⟩) ?_;exact flk;simp (disch:=omega) only[k1,k2,g3,jx,go_sem,ql,dvP,mdP])
      |(apply qc;exact rvk;simp only[go_sem];exact qi)
   ·have k1:((s.length:Int)<1)=False:=eqf om;have k2:(64<(s.length:Int))=True:=eqt om;refine qt qdF (by simp) ?_;simp only[lco,lnl,Nat.reduceAdd,Nat.reduceSub,List.replicate,lca,lna,lan];simp (disch:=omega) only[qgk,k1,k2,go_sem,ql,dvP,mdP]
    repeat' first
     |(refine qj ((.int .i64 0)) ?_;simp (disch:=omega) only[k1,k2,go_sem,ql,dvP,mdP])
     |(apply qc;exact rvk;simp only[go_sem];exact qi)
  ·have k1:((s.length:Int)<1)=True:=eqt om;refine qt qdF (by simp) ?_;simp only[lco,lnl,Nat.reduceAdd,Nat.reduceSub,List.replicate,lca,lna,lan];simp (disch:=omega) only[qgk,k1,go_sem,ql,dvP,mdP]
   repeat' first
    |(refine qj ((.int .i64 0)) ?_;simp (disch:=omega) only[k1,go_sem,ql,dvP,mdP])
    |(apply qc;exact rvk;simp only[go_sem];exact qi)
end HY
end
section
open Go Go.Proofs AF HY
namespace LN
def ld(c:UInt8):Bool:=decide (kind c=1)||decide (kind c=3)
theorem t66(s:List UInt8)(h:List AObj)(hs:s.length≤1000000000):ACalls Tryz.prog 242 [.str s] h (.int .i64 ((s.countP ld:Nat):Int)) h:=by
 refine qt quL (by simp) ?_;simp only[lco,lnl,Nat.reduceAdd,Nat.reduceSub,List.replicate,lca,lna,lan];simp (disch:=omega) only[qtr,go_sem];refine qn (T:=fun i:Nat=>qM 25 [(0,.str s),(3,.int .i64 (((s.take i).countP ld:Nat):Int)),(7,.int .i64 s.length),(8,.int .i64 i)]) (H:=fun _=>h) (inv:=fun i=>i≤s.length) (m:=fun i=>s.length-i) 0 om (Wk.temps ?_) ?_
 ·(simp only[qM,List.foldl,go_sem,qh,qe,qb,qg];try (repeat' first|(with_reducible apply aiA)|(apply qf;omega)|(apply qd;rfl)|exact qi))
 ·rintro i i1 K hK
  by_cases hi:i<s.length
  ·obtain⟨c,hc⟩: ∃c,c=s.getD i 0:=⟨_,rfl⟩
   have e1:(s[i]?).getD 0=c:=by rw[hc,gdqA]
   have e2:s.take (i+1)=s.take i++ [c]:=by rw[List.take_add_one,hc,gdqA,jr hi];rfl
   have hb:=c.toNat_lt;have c92:=fun h=>qy7 (c.toNat:Int) h om om
   have hn:(s.take i).countP ld≤s.length:=Nat.le_trans List.countP_le_length (by simp;omega);obtain⟨n,hN⟩: ∃n,n=(s.take i).countP ld:=⟨_,rfl⟩
   rw[←hN]at hn ⊢;obtain⟨k,hk⟩: ∃k,k=qdP (c.toNat:Int):=⟨_,rfl⟩
   have hk':k=kind c:=hk;rw[←hk]at c92;have e3:(s.take (i+1)).countP ld=n+if ld c=true then 1 else 0:=by
    rw[e2,List.countP_append,←hN];simp[List.countP_cons]
   by_cases g1:k=1
   ·have k1:(k=1)=True:=eqt g1;have g:ld c=true:=by unfold ld;rw[←hk',g1];rfl
    rw[ipo g]at e3;simp (disch:=omega) only[qM,List.foldl,e1,go_sem]
    repeat' first
     |(refine qw (c92 _) ?_ ?_;exact flk;simp (disch:=omega) only[k1,go_sem,ql])
     |(apply qc;exact rvk;simp only[go_sem];apply qf)
     |with_reducible first|intro _|apply aiA
    all_goals try exact clz
    refine hK _ _ (i+1) om om (Wk.temps ?_);rw[e3]
    (simp only[qM,List.foldl,go_sem,qh,qe,qb,qg];try (repeat' first|(with_reducible apply aiA)|(apply qf;omega)|(apply qd;rfl)|exact qi))
   ·have k1:(k=1)=False:=eqf g1
    by_cases g2:k=3
    ·have k2:(k=3)=True:=eqt g2;have g:ld c=true:=by unfold ld;rw[←hk',g2];rfl
     rw[ipo g]at e3;simp (disch:=omega) only[qM,List.foldl,e1,go_sem]
     repeat' first
      |(refine qw (c92 _) ?_ ?_;exact flk;simp (disch:=omega) only[k1,k2,go_sem,ql])
      |(apply qc;exact rvk;simp only[go_sem];apply qf)
      |with_reducible first|intro _|apply aiA
     all_goals try exact clz
     refine hK _ _ (i+1) om om (Wk.temps ?_);rw[e3]
     (simp only[qM,List.foldl,go_sem,qh,qe,qb,qg];try (repeat' first|(with_reducible apply aiA)|(apply qf;omega)|(apply qd;rfl)|exact qi))
    ·have k2:(k=3)=False:=eqf g2;have g: ¬ld c=true:=by unfold ld;rw[←hk',dqf g1,dqf g2];simp
     rw[ine g]at e3;simp (disch:=omega) only[qM,List.foldl,e1,go_sem]
     repeat' first
      |(refine qw (c92 _) ?_ ?_;exact flk;simp (disch:=omega) only[k1,k2,go_sem,ql])
      |(apply qc;exact rvk;simp only[go_sem];apply qf)
      |with_reducible first|intro _|apply aiA
     all_goals try exact clz
     refine hK _ _ (i+1) om om (Wk.temps ?_);rw[e3,Nat.add_zero]
     (simp only[qM,List.foldl,go_sem,qh,qe,qb,qg];try (repeat' first|(with_reducible apply aiA)|(apply qf;omega)|(apply qd;rfl)|exact qi))
  ·have e:i=s.length:=by omega
   subst e;rw[List.take_length];simp (disch:=omega) only[qM,List.foldl,go_sem]
   repeat' first
    |(apply qc;exact rvk;simp only[go_sem];exact qi)
    |with_reducible first|intro _|apply aiA
   all_goals try exact clz
def j0(s:List UInt8):Bool:=decide (s≠ [])&&(decide (s.length≤16)&&decide (s.countP ld=s.length))
theorem t44(s:List UInt8)(h:List AObj)(hs:s.length≤1000000000):ACalls Tryz.prog 186 [.str s] h (.bool (j0 s)) h:=by
 have c66:=fun h=>t66 s h hs
 unfold j0
 by_cases g1:s= []
 ·have k1:(s= [])=True:=eqt g1;rw[dqf (show¬s≠ []from fun hc=>hc g1)];refine qt qfB (by simp) ?_;simp only[lco,lnl,Nat.reduceAdd,Nat.reduceSub,List.replicate,lca,lna,lan];simp (disch:=omega) only[qiK,k1,go_sem]
  repeat' first
   |(refine qj ((.int .i64 0)) ?_;simp (disch:=omega) only[go_sem])
   |(apply qc;exact rvk;simp only[go_sem];exact qi)
   |with_reducible first|intro _|apply aiA
  all_goals try exact clz
 ·have k1:(s= [])=False:=eqf g1;rw[dqt (show s≠ []from g1)]
  by_cases g2:s.length≤16
  ·have k2:((s.length:Int)≤16)=True:=eqt om;rw[dqt g2]
   by_cases g3:s.countP ld=s.length
   ·have k3:(((s.countP ld:Nat):Int)=s.length)=True:=eqt om;rw[dqt g3];refine qt qfB (by simp) ?_;simp only[lco,lnl,Nat.reduceAdd,Nat.reduceSub,List.replicate,lca,lna,lan];simp (disch:=omega) only[qiK,k1,k2,go_sem]
    repeat' first
     |(refine qE (fun e=>⟨?_,c66 _⟩) ?_;exact flk;simp (disch:=omega) only[k3,go_sem])
     |(apply qc;exact rvk;simp only[go_sem];exact qi)
   ·have k3:(((s.countP ld:Nat):Int)=s.length)=False:=eqf om;rw[dqf g3];refine qt qfB (by simp) ?_;simp only[lco,lnl,Nat.reduceAdd,Nat.reduceSub,List.replicate,lca,lna,lan];simp (disch:=omega) only[qiK,k1,k2,go_sem]
    repeat' first
     |(refine qE (fun e=>⟨?_,c66 _⟩) ?_;exact flk;simp (disch:=omega) only[k3,go_sem])
     |(apply qc;exact rvk;simp only[go_sem];exact qi)
  ·have k2:((s.length:Int)≤16)=False:=eqf om;rw[dqf g2];refine qt qfB (by simp) ?_;simp only[lco,lnl,Nat.reduceAdd,Nat.reduceSub,List.replicate,lca,lna,lan];simp (disch:=omega) only[qiK,k1,k2,go_sem]
   repeat' first
    |(refine qj ((.int .i64 0)) ?_;simp (disch:=omega) only[go_sem])
    |(apply qc;exact rvk;simp only[go_sem];exact qi)
theorem t77(s:List UInt8)(h:List AObj)(hs:s.length≤1000000000):ACalls Tryz.prog 217 [.str s] h (.int .i64 ((s.countP ld:Nat):Int)) h:=by
 refine qt quF (by simp) ?_;simp only[lco,lnl,Nat.reduceAdd,Nat.reduceSub,List.replicate,lca,lna,lan];simp (disch:=omega) only[qtl,go_sem];refine qn (T:=fun i:Nat=>qM 25 [(0,.str s),(3,.int .i64 (((s.take i).countP ld:Nat):Int)),(4,.int .i64 i)]) (H:=fun _=>h) (inv:=fun i=>i≤s.length) (m:=fun i=>s.length-i) 0 om (Wk.temps ?_) ?_
 ·(simp only[qM,List.foldl,go_sem,qh,qe,qb,qg];try (repeat' first|(with_reducible apply aiA)|(apply qf;omega)|(apply qd;rfl)|exact qi))
 ·rintro i i1 K hK
  by_cases hi:i<s.length
  ·obtain⟨c,hc⟩: ∃c,c=s.getD i 0:=⟨_,rfl⟩
   have e1:(s[i]?).getD 0=c:=by rw[hc,gdqA]
   have e2:s.take (i+1)=s.take i++ [c]:=by rw[List.take_add_one,hc,gdqA,jr hi];rfl
   have c55:=fun h=>qy9 (c.toNat:Int) h
   have hn:(s.take i).countP ld≤s.length:=Nat.le_trans List.countP_le_length (by simp;omega);obtain⟨n,hN⟩: ∃n,n=(s.take i).countP ld:=⟨_,rfl⟩
   rw[←hN]at hn ⊢;obtain⟨k,hk⟩: ∃k,k=qdP (c.toNat:Int):=⟨_,rfl⟩
   have hk':k=kind c:=hk;rw[←hk]at c55;have e3:(s.take (i+1)).countP ld=n+if ld c=true then 1 else 0:=by
    rw[e2,List.countP_append,←hN];simp[List.countP_cons]
   have q0:((i:Int)<s.length)=True:=eqt om
   by_cases g1:k=1
   ·have k1:(k=1)=True:=eqt g1;have g:ld c=true:=by unfold ld;rw[←hk',g1];rfl
    rw[ipo g]at e3;simp (disch:=omega) only[qM,List.foldl,e1,q0,go_sem]
    repeat' first
     |(refine qw (c55 _) ?_ ?_;exact flk;simp (disch:=omega) only[k1,go_sem,ql])
     |with_reducible apply aiA
    all_goals try exact clz
    refine hK _ _ (i+1) om om (Wk.temps ?_);rw[e3]
    (simp only[qM,List.foldl,go_sem,qh,qe,qb,qg];try (repeat' first|(with_reducible apply aiA)|(apply qf;omega)|(apply qd;rfl)|exact qi))
   ·have k1:(k=1)=False:=eqf g1
    by_cases g2:k=3
    ·have k2:(k=3)=True:=eqt g2;have g:ld c=true:=by unfold ld;rw[←hk',g2];rfl
     rw[ipo g]at e3;simp (disch:=omega) only[qM,List.foldl,e1,q0,go_sem]
     repeat' first
      |(refine qw (c55 _) ?_ ?_;exact flk;simp (disch:=omega) only[k1,k2,go_sem,ql])
      |with_reducible apply aiA
     all_goals try exact clz
     refine hK _ _ (i+1) om om (Wk.temps ?_);rw[e3]
     (simp only[qM,List.foldl,go_sem,qh,qe,qb,qg];try (repeat' first|(with_reducible apply aiA)|(apply qf;omega)|(apply qd;rfl)|exact qi))
    ·have k2:(k=3)=False:=eqf g2;have g:ld c=false:=by unfold ld;rw[←hk',dqf g1,dqf g2];rfl
     rw[ine (by rw[g];simp)]at e3;simp (disch:=omega) only[qM,List.foldl,e1,q0,go_sem]
     repeat' first
      |(refine qw (c55 _) ?_ ?_;exact flk;simp (disch:=omega) only[k1,k2,go_sem,ql])
      |with_reducible apply aiA
     all_goals try exact clz
     refine hK _ _ (i+1) om om (Wk.temps ?_);rw[e3]
     (simp only[qM,List.foldl,go_sem,qh,qe,qb,qg];try (repeat' first|(with_reducible apply aiA)|(apply qf;omega)|(apply qd;rfl)|exact qi))
  ·have e:i=s.length:=by omega
   subst e;rw[List.take_length];have q0:((s.length:Int)<s.length)=False:=eqf om;simp (disch:=omega) only[qM,List.foldl,q0,go_sem]
   repeat' first
    |(apply qc;exact rvk;simp only[go_sem];exact qi)
theorem qj8{s:List UInt8}(h1:s≠ [])(h2:s.length≤16)(h3:s.countP ld=s.length):kT s=true:=by
 have hall: ∀c∈s,ld c=true:=List.countP_eq_length.1 h3;have hch: ∀i,i<s.length→kind (ch s i)=1∨kind (ch s i)=3:=by
  intro i hi;have hm:ch s i∈s:=by
   have e:ch s i=s[i]:=by simp[ch,hi]
   rw[e];exact List.getElem_mem hi
  have:=hall _ hm
  unfold ld at this;simpa using this
 have hp:0<s.length:=List.length_pos_iff.2 h1;have hc:qal s=0:=by
  rw[qdw,ine om,ine];rw[List.any_eq_true];rintro⟨i,hi,hb⟩
  have:=hch i (List.mem_range.1 hi)
  unfold qan at hb;rcases this with h|h<;>rw[h]at hb<;>simp at hb
 rw[qbS,dqt hp,dqt (show s.length≤64 by omega),dqt hc];have h0:=hch 0 hp;have e0:(decide (kind (ch s 0)=1)||decide (kind (ch s 0)=3))=true:=by simpa using h0
 rw[e0];have ea:((List.range s.length).any fun i=>spc (ch s i))=false:=by
  rw[List.any_eq_false];intro i hi
  have:=hch i (List.mem_range.1 hi)
  unfold spc;rcases this with h|h<;>rw[h]<;>decide
 rw[ea];rfl
theorem t53(s:List UInt8)(h:List AObj)(hs:s.length≤1000000000):ACalls Tryz.prog 166 [.str s] h (.bool (j0 s)) h:=by
 have c76:=fun h=>t93 s h hs
 have c77:=fun h=>t77 s h hs
 unfold j0
 by_cases g2:s.length≤16
 ·have k2:((s.length:Int)≤16)=True:=eqt om;rw[dqt g2,Bool.true_and]
  by_cases g3:s.countP ld=s.length
  ·have k3:((s.countP ld:Int)=s.length)=True:=eqt om;rw[dqt g3,Bool.and_true]
   by_cases g1:s= []
   ·rw[dqf (fun hc=>hc g1)];have hw:kT s=false:=by subst g1;rw[qbS];rfl
    rw[hw]at c76;refine qt qdE (by simp) ?_;simp only[lco,lnl,Nat.reduceAdd,Nat.reduceSub,List.replicate,lca,lna,lan];simp (disch:=omega) only[qgj,k2,go_sem]
    repeat' first
     |(refine qj ((.int .i64 0)) ?_;simp (disch:=omega) only[go_sem])
     |(refine qE (fun e=>⟨?_,c76 _⟩) ?_;exact flk;simp (disch:=omega) only[go_sem])
     |(apply qc;exact rvk;simp only[go_sem];exact qi)
   ·rw[dqt g1];rw[qj8 g1 g2 g3]at c76;refine qt qdE (by simp) ?_;simp only[lco,lnl,Nat.reduceAdd,Nat.reduceSub,List.replicate,lca,lna,lan];simp (disch:=omega) only[qgj,k2,go_sem]
    repeat' first
     |((first|refine qE (fun e=>⟨?_,c76 _⟩) ?_|refine qE (fun e=>⟨?_,c77 _⟩) ?_);exact flk;simp (disch:=omega) only[k3,go_sem])
     |(apply qc;exact rvk;simp only[go_sem];exact qi)
  ·have k3:((s.countP ld:Int)=s.length)=False:=eqf om;rw[dqf g3,Bool.and_false];cases hw:kT s with
   |false=>
    rw[hw]at c76;refine qt qdE (by simp) ?_;simp only[lco,lnl,Nat.reduceAdd,Nat.reduceSub,List.replicate,lca,lna,lan];simp (disch:=omega) only[qgj,k2,go_sem]
    repeat' first
     |(refine qj ((.int .i64 0)) ?_;simp (disch:=omega) only[go_sem])
     |(refine qE (fun e=>⟨?_,c76 _⟩) ?_;exact flk;simp (disch:=omega) only[go_sem])
     |(apply qc;exact rvk;simp only[go_sem];exact qi)
   |true=>
    rw[hw]at c76;refine qt qdE (by simp) ?_;simp only[lco,lnl,Nat.reduceAdd,Nat.reduceSub,List.replicate,lca,lna,lan];simp (disch:=omega) only[qgj,k2,go_sem]
    repeat' first
     |((first|refine qE (fun e=>⟨?_,c76 _⟩) ?_|refine qE (fun e=>⟨?_,c77 _⟩) ?_);exact flk;simp (disch:=omega) only[k3,go_sem])
     |(apply qc;exact rvk;simp only[go_sem];exact qi)
 ·have k2:((s.length:Int)≤16)=False:=eqf om;rw[dqf g2,Bool.false_and,Bool.and_false];refine qt qdE (by simp) ?_;simp only[lco,lnl,Nat.reduceAdd,Nat.reduceSub,List.replicate,lca,lna,lan];simp (disch:=omega) only[qgj,k2,go_sem]
  repeat' first
   |(refine qj ((.bool false)) ?_;simp (disch:=omega) only[go_sem])
   |(apply qc;exact rvk;simp only[go_sem];exact qi)
end LN
end
section
open Go Go.Proofs AF HY
namespace HY
theorem qy8(s:List UInt8)(f a:Nat)(h:List AObj)(hf:f<s.length):ACalls Tryz.prog 316 [.str s,.int .i64 f,.int .i64 a] h (.bool (decide (kind (ch s f)=1)&&decide (f<a))) h:=by
 refine qt qu9 (by simp) ?_;simp only[lco,lnl,Nat.reduceAdd,Nat.reduceSub,List.replicate,lca,lna,lan];simp (disch:=omega) only[qtM,jx,go_sem]
 repeat' first
  |(refine qw (qdd _ _) ?_ ?_;exact flk;simp (disch:=omega) only[go_sem])
  |(apply qc;exact rvk;simp only[go_sem];apply qd)
  |with_reducible apply aiA
 all_goals first
  |omega
  |(congr 1;exact decide_eq_decide.2 om)
  |skip
theorem qx2(s:List UInt8)(hs:s.length≤1000000000):qsT Tryz.prog 315 [.ip [.str s]] ((qY s).map fun x=> [.int .i64 (x.1:Int),.str x.2]):=by
 intro h ts L S E hS hE body start hts;refine qaT qu8 (by simp) ?_;simp only[lco,lnl,Nat.reduceAdd,Nat.reduceSub,List.replicate,lca,lna,lan];simp (disch:=omega) only[qtL,go_sem]
 all_goals first
  |omega
  |skip
 refine qn (T:=fun i:Nat×Nat×Nat×List AObj=>qM 37 [(0,.yld h.length),(1,.ip [.str s]),(3,.int .i64 i.1),(4,.int .i64 i.2.1)]) (H:=fun i=>i.2.2.2++ [.lp .ready ts L])
  (inv:=fun i=>S i.2.2.1 i.2.2.2∧((i.2.1≤s.length∧i.1<i.2.1∧(qY s).drop i.2.2.1=kh i.1 ((s.drop i.1).take (i.2.1-i.1)) (s.drop i.2.1))∨(s.length<i.2.1∧i.2.1≤s.length+1∧i.2.2.1=(qY s).length))) (m:=fun i=>s.length+1-i.2.1) (0,1,0,h) ⟨start,?_⟩ (Wk.temps ?_) ?_
 ·simp only;cases s with
  |nil=>right;simp[qY]
  |cons c r=>left;simp[qY]
 ·(simp only[qM,List.foldl,go_sem,qh,qe,qg];try (repeat' first|(with_reducible apply aiA)|(apply qf;omega)|(apply qd;rfl)|exact qi))
 ·rintro⟨f,i,j,hh⟩ ⟨i1,i2⟩ K hK;simp only at i1 i2 hK;obtain⟨hlen,hlow⟩:=hS _ _ i1;rcases i2 with⟨g1,g2,g3⟩|⟨g1,g2,rfl⟩
  ·have hjl:j<(qY s).length:=by
    have:(qY s).drop j≠ []:=by rw[g3];exact qmF _ _ _
    by_cases hj:j<(qY s).length
    ·exact hj
    ·exact absurd (List.drop_of_length_le om) this
   by_cases hk:i<s.length∧kind (ch s i)=2∧kind (ch s f)=1
   ·have hst:=qbM g2 hk.1;rw[ipo hk.2]at hst;simp (disch:=omega) only[qM,List.foldl,jx,go_sem]
    repeat' first
     |((first|refine qE (fun e=>⟨?_,qdd _ _⟩) ?_|refine qE (fun e=>⟨?_,qy8 s f i _ om⟩) ?_);exact flk;simp (disch:=omega) only[hk.2.1,hk.2.2,go_sem,ql])
     |with_reducible first|intro _|apply aiA
    all_goals first
     |omega
     |skip
    refine hK _ _ (f,i+1,j,hh) ⟨i1,.inl ⟨by simp only;omega,by simp only;omega,by rw[g3,hst]⟩⟩ (by simp only;omega) (Wk.temps ?_)
    (simp only[qM,List.foldl,go_sem,qh,qe,qb,qg];try (repeat' first|(with_reducible apply aiA)|(apply qf;omega)|(apply qd;rfl)|exact qi))
   ·obtain⟨rest,hrest,hr1⟩: ∃rest,(qY s).drop j=(f,(s.drop f).take (i-f))::rest∧(if i<s.length then rest=kh i ((s.drop i).take (i+1-i)) (s.drop (i+1)) else rest= []):=by
     by_cases hi:i<s.length
     ·have hst:=qbM g2 hi;rw[ine (fun h=>hk ⟨hi,h⟩)]at hst;exact⟨_,g3.trans hst,by rw[ipo hi]⟩
     ·refine⟨[],?_,by rw[ine hi]⟩;rw[g3,show s.drop i= []from List.drop_of_length_le om];rfl
    rw[List.drop_eq_getElem_cons hjl]at hrest;obtain⟨hget,hdrop⟩:=List.cons.inj hrest;have hb:=body j hh [] (by simpa using hjl) i1;rw[List.getElem_map,hget]at hb;simp only at hb;have hfit:(i:Int)-f=((i-f:Nat):Int):=by omega
    simp (disch:=omega) only[qM,List.foldl,jx,go_sem]
    repeat' first
     |((first|refine qE (fun e=>⟨?_,qdd _ _⟩) ?_|refine qE (fun e=>⟨?_,qy8 s f i _ om⟩) ?_);exact flk;simp (disch:=omega) only[go_sem,ql])
     |with_reducible first|intro _|apply aiA
    all_goals first
     |omega
     |exact⟨.ready,ts,L,ku hlen⟩
     |skip
    refine kp.mono ?_ hb;rintro v h' ⟨hh',⟨rfl,hn,rfl⟩|⟨st,rfl,hs',rfl⟩⟩
    ·simp (disch:=omega) only[go_sem,ql]
     all_goals first
      |omega
      |(rename_i hx;revert hx;simp;done)
      |skip
     by_cases hi:i<s.length
     ·rw[ipo hi]at hr1;refine hK _ _ (i,i+1,j+1,hh') ⟨hn,.inl ⟨by simp only;omega,by simp only;omega,by simp only;rw[hdrop,hr1]⟩⟩ (by simp only;omega) (Wk.temps ?_)
      (simp only[qM,List.foldl,go_sem,qh,qe,qb,qg];try (repeat' first|(with_reducible apply aiA)|(apply qf;omega)|(apply qd;rfl)|exact qi))
     ·rw[ine hi]at hr1;refine hK _ _ (i,i+1,j+1,hh') ⟨hn,.inr ⟨by simp only;omega,by simp only;omega,?_⟩⟩ (by simp only;omega) (Wk.temps ?_)
      ·have:((qY s).drop (j+1)).length=0:=by rw[hdrop,hr1];rfl
       rw[List.length_drop]at this;simp only;omega
      ·(simp only[qM,List.foldl,go_sem,qh,qe,qb,qg];try (repeat' first|(with_reducible apply aiA)|(apply qf;omega)|(apply qd;rfl)|exact qi))
    ·simp (disch:=omega) only[go_sem,ql];obtain⟨r1,r2⟩:=(hE _ _ hs').ret (L:=L) st hts;exact qm8 trivial r1 r2 ⟨_,.inr ⟨st,hs',rfl⟩⟩ (qi)
  ·simp (disch:=omega) only[qM,List.foldl,go_sem]
   repeat' first
    |with_reducible first|intro _|apply aiA
   all_goals first
    |omega
    |skip
   obtain⟨r1,r2⟩:=(hS _ _ i1).ret (L:=L) .ready hts;exact kS trivial r1 r2 ⟨hh,.inl ⟨by simpa using i1,rfl⟩⟩ (qi)
def qja(s:List UInt8):AV:= .fn (.func 315) [] [.ip [.str s]]
def qdx(s:List UInt8):List (List AV):=(qY s).map fun x=> [.int .i64 (x.1:Int),.str x.2]
theorem qdy(s:List UInt8):(qdx s).length=(qej s).length:=by simp[qdx,qej]
theorem qjd(s:List UInt8){i:Nat}(hi:i<(qdx s).length): ∃n:Nat,(qdx s)[i]= [.int .i64 (n:Int),.str ((qej s).getD i [])]:=by
 have h1:i<(qY s).length:=by simpa[qdx] using hi
 refine⟨((qY s)[i]).1,?_⟩;simp[qdx,qej,gdqA,h1]
theorem t91(s:List UInt8)(h:List AObj):ACalls Tryz.prog 307 [.str s] h (qja s) h:=by
 refine qt qu6 (by simp) ?_;simp only[lco,lnl,Nat.reduceAdd,Nat.reduceSub,List.replicate,lca,lna];simp (disch:=omega) only[qtJ,go_sem]
 repeat' first
  |(apply qa;exact rvk;simp only[go_sem];exact qi)
theorem qgC(s:List UInt8):(qja s).flag=true:=rfl
theorem qe6(s:List UInt8):(qja s).strip=qja s:=rfl
attribute [go_sem] qgC qe6
theorem _root_.AF.LowI.app{h a b:List AObj}(e:b.length=a.length)(hb: ∀o∈b,o∈a∨(qao (h.length+a.length) o∧qao (h.length+a.length+1) o)):LowI (h++a) (h++b):=by
 refine⟨by simp[e],fun o ho=> ?_⟩;rw[lap];rcases List.mem_append.1 ho with ho|ho
 ·exact .inl (List.mem_append_left _ ho)
 ·rcases hb o ho with h1|h1
  ·exact .inl (List.mem_append_right _ h1)
  ·exact .inr h1
theorem qlB(l:List (List UInt8)){i:Nat}(h:i<l.length):l.take (i+1)=l.take i++ [l.getD i []]:=by
 rw[List.take_add_one,jr h];simp[gdqA,h]
end HY
end
