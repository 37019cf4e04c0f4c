import Derived.Test.YtgoandblgcjleaaGreatDoorK12
import Derived.Test.YtgoandblgcjleaaGreatDoorK13
import Derived.Test.YtgoandblgcjleaaGreatDoorK9
import Derived.Test.YtgoandblgcjleaaGreatDoorK11
import Derived.Test.YtgoandblgcjleaaGreatDoorK3
import Derived.Test.YtgoandblgcjleaaGreatDoorK4
import Derived.Test.YtgoandblgcjleaaGreatDoorK8
import Derived.Test.YtgoandblgcjleaaGreatDoorProg
set_option linter.all false
set_option linter.unusedSimpArgs false
set_option linter.unusedVariables false
set_option linter.unusedSectionVars false
set_option maxHeartbeats 256000000
set_option maxRecDepth 100000
section
open Go Go.Proofs AF HY LN
namespace RC
def bC(p:Nat→Bool)(n:Nat):List AV:=(List.range n).map fun k=> .bool (p k)
theorem qal(p:Nat→Bool)(n:Nat):(bC p n).length=n:=by simp[bC]
theorem qfx{p:Nat→Bool}{n k:Nat}(hk:k<n):(bC p n)[k]? =some (.bool (p k)):=by
 unfold bC;rw[List.getElem?_map,List.getElem?_range hk];rfl
theorem kZ{p q:Nat→Bool}{n:Nat}(h: ∀k,k<n→p k=q k):bC p n=bC q n:=by
 unfold bC;exact List.map_congr_left fun k hk=>by rw[h k (List.mem_range.1 hk)]
theorem qo1{p:Nat→Bool}{n u:Nat}(hu:u<n):List.take u (bC p n)++ [AV.bool true]++List.drop (u+1) (bC p n)=bC (fun k=>p k||decide (k=u)) n:=by
 refine List.ext_getElem? fun k=> ?_
 by_cases hk:k<n
 ·rw[qfx hk]
  by_cases h1:k<u
  ·rw[List.append_assoc,List.getElem?_append_left (by rw[List.length_take,qal];omega),List.getElem?_take_of_lt h1,qfx hk,dqf om,Bool.or_false]
  ·by_cases h2:k=u
   ·subst h2;rw[List.append_assoc,List.getElem?_append_right (by rw[List.length_take,qal];omega),List.length_take,qal,show k-min k n=0 by omega,dqt rfl,Bool.or_true];rfl
   ·rw[List.getElem?_append_right (by rw[lap,List.length_take,qal];simp only[lco,lnl];omega),lap,List.length_take,qal,List.getElem?_drop];simp only[lco,lnl];rw[show u+1+(k-(min u n+(0+1)))=k by omega,qfx hk,dqf h2,Bool.or_false]
 ·rw[List.getElem?_eq_none (by simp only[lap,List.length_take,List.length_drop,qal,lco,lnl];omega),List.getElem?_eq_none (by rw[qal];omega)]
theorem qp5(n:Nat):qQ [AV.bool false] n=bC (fun _=>false) n:=by
 induction n with
 |zero=>rfl
 |succ n ih=>
  have e:bC (fun _=>false) (n+1)=AV.bool false::bC (fun _=>false) n:=by
   unfold bC;rw[List.range_succ_eq_map,List.map_cons,List.map_map];rfl
  rw[e,←ih];rfl
theorem qAw(a b:List Int)(h:List AObj)(h1:a.length≤1000000000)(h2:b.length≤1000000000):ACalls Tryz.prog 235 [qr a,qr b] h (.bool (decide (a=b))) h:=by
 obtain⟨R,hR⟩: ∃R,R=decide (a=b):=⟨_,rfl⟩
 have he:R=decide (a.length=b.length∧ ∀i,i<a.length→a.getD i 0=b.getD i 0):=by rw[hR];exact decide_eq_decide.2 (je (0:Int))
 rw[←hR]
 by_cases g:a.length=b.length
 case neg=>
  have k1:((a.length:Int)=b.length)=False:=eqf om;rw[dqf (fun hc=>g hc.1)]at he;rw[he];refine acO qpk ?_;simp (disch:=omega) only[qql,qr,k1,go_sem]
  repeat' first
   |(apply qh;exact rvk;simp only[go_sem];exact qi)
 have k1:((a.length:Int)=b.length)=True:=eqt om;refine acO qpk ?_;simp (disch:=omega) only[qql,qr,k1,go_sem];refine qn (T:=fun i:Nat=>qP 26 [(0,qr a),(1,qr b),(5,.int .i64 i)]) (H:=fun _=>h) (inv:=fun i=>i≤a.length∧ ∀j,j<i→a.getD j 0=b.getD j 0) (m:=fun i=>a.length-i) 0 ⟨nzl _,fun j hj=>absurd hj (nnz j)⟩ (Wk.temps ?_) ?_
 ·(simp only[qr,go_sem,qf,qc,qa,qe];try (repeat' first|(with_reducible apply aiA)|(apply qg;omega)|(apply qd;rfl)|exact qi))
 rintro i ⟨i1,i2⟩ K hK
 by_cases hi:i<a.length
 ·have k2:((i:Int)<a.length)=True:=eqt om;have k3:((i:Int)<b.length)=True:=eqt om;have k0:(0≤(i:Int))=True:=eqt om;have hno: ¬a.getD i 0=b.getD i 0→R=false:=fun hx=>by rw[he];exact dqf fun hc=>hx (hc.2 i hi)
  obtain⟨x,hx⟩: ∃x,x=a.getD i 0:=⟨_,rfl⟩
  obtain⟨y,hy⟩: ∃y,y=b.getD i 0:=⟨_,rfl⟩
  have ex:=hx.symm;have ey:=hy.symm;rw[ex,ey]at hno
  by_cases g2:x=y
  ·have q:(x=y)=True:=eqt g2;simp (disch:=omega) only[qr,k0,k2,k3,ex,ey,q,go_sem]
   repeat' first
    |with_reducible apply aiA
   all_goals try exact clz
   refine hK _ _ (i+1) ⟨hi,fun j hj=> ?_⟩ om (Wk.temps ?_)
   ·by_cases e:j=i
    ·subst e;rw[ex,ey];exact g2
    ·exact i2 j om
   ·(simp only[qr,go_sem,qf,qc,qa,qe];try (repeat' first|(with_reducible apply aiA)|(apply qg;omega)|(apply qd;rfl)|exact qi))
  ·have q:(x=y)=False:=eqf g2;rw[hno g2];simp (disch:=omega) only[qr,k0,k2,k3,ex,ey,q,go_sem]
   repeat' first
    |(apply qh;exact rvk;simp only[go_sem];exact qi)
    |with_reducible apply aiA
   all_goals try exact clz
 ·have k2:((i:Int)<a.length)=False:=eqf om;rw[he,dqt ⟨g,fun j hj=>i2 j om⟩];simp (disch:=omega) only[qr,k2,go_sem]
  repeat' first
   |(apply qh;exact rvk;simp only[go_sem];exact qi)
theorem qAx(a b:List Rd)(h:List AObj)(za:qh2 a)(zb:qh2 b):ACalls Tryz.prog 179 [zB a,zB b] h (.bool (decide (a=b))) h:=by
 have ha:=za.n;have hb:=zb.n;obtain⟨R,hR⟩: ∃R,R=decide (a=b):=⟨_,rfl⟩
 have he:R=decide (a.length=b.length∧ ∀i,i<a.length→a.getD i default=b.getD i default):=by rw[hR];exact decide_eq_decide.2 (je (default:Rd))
 rw[←hR]
 by_cases g:a.length=b.length
 case neg=>
  have k1:((a.length:Int)=b.length)=False:=eqf om;rw[dqf (fun hc=>g hc.1)]at he;rw[he];refine acO qpi ?_;simp (disch:=omega) only[qqj,zB,k1,go_sem]
  repeat' first
   |(apply qh;exact rvk;simp only[go_sem];exact qi)
 have k1:((a.length:Int)=b.length)=True:=eqt om;refine acO qpi ?_;simp (disch:=omega) only[qqj,zB,k1,go_sem];refine qn (T:=fun i:Nat=>qP 43 [(0,zB a),(1,zB b),(5,.int .i64 i)]) (H:=fun _=>h) (inv:=fun i=>i≤a.length∧ ∀j,j<i→a.getD j default=b.getD j default) (m:=fun i=>a.length-i) 0 ⟨nzl _,fun j hj=>absurd hj (nnz j)⟩ (Wk.temps ?_) ?_
 ·(simp only[zB,go_sem,qf,qc,qa,qe];try (repeat' first|(with_reducible apply aiA)|(apply qg;omega)|(apply qd;rfl)|exact qi))
 rintro i ⟨i1,i2⟩ K hK
 by_cases hi:i<a.length
 ·have k2:((i:Int)<a.length)=True:=eqt om;have k3:((i:Int)<b.length)=True:=eqt om;have k0:(0≤(i:Int))=True:=eqt om;have c1:=fun h=>qyQ (a.getD i default).words (b.getD i default).words h (za.wd i) (zb.wd i)
  have c2:=fun h=>qAw (a.getD i default).src (b.getD i default).src h (za.sr i) (zb.sr i)
  have hno: ¬a.getD i default=b.getD i default→R=false:=fun hx=>by rw[he];exact dqf fun hc=>hx (hc.2 i hi)
  obtain⟨x,hx⟩: ∃x,x=a.getD i default:=⟨_,rfl⟩
  obtain⟨y,hy⟩: ∃y,y=b.getD i default:=⟨_,rfl⟩
  have ex:=hx.symm;have ey:=hy.symm;rw[ex,ey]at hno;simp only[ex,ey]at c1 c2
  by_cases g2:x.words=y.words
  case neg=>
   rw[dqf g2]at c1;rw[hno (fun e=>g2 (qn7.1 e).1)];simp (disch:=omega) only[zB,rdC,k0,k2,k3,ex,ey,go_sem]
   repeat' first
    |(refine qj ( .bool false) ?_;simp (disch:=omega) only[go_sem])
    |(refine cA (c1 _) flk ?_;simp (disch:=omega) only[k0,k2,k3,ex,ey,go_sem])
    |(apply qh;exact rvk;simp only[go_sem];exact qi)
  rw[dqt g2]at c1
  by_cases g3:x.src=y.src
  ·rw[dqt g3]at c2;simp (disch:=omega) only[zB,rdC,k0,k2,k3,ex,ey,go_sem]
   repeat' first
    |((first|refine cA (c1 _) ?_ ?_|refine cG (fun e=>c2 _) ?_ ?_);exact flk;simp (disch:=omega) only[k0,k2,k3,ex,ey,go_sem])
    |with_reducible apply aiA
   all_goals try exact clz
   refine hK _ _ (i+1) ⟨hi,fun j hj=> ?_⟩ om (Wk.temps ?_)
   ·by_cases e:j=i
    ·subst e;rw[ex,ey];exact qn7.2 ⟨g2,g3⟩
    ·exact i2 j om
   ·(simp only[zB,go_sem,qf,qc,qa,qe];try (repeat' first|(with_reducible apply aiA)|(apply qg;omega)|(apply qd;rfl)|exact qi))
  ·rw[dqf g3]at c2;rw[hno (fun e=>g3 (qn7.1 e).2)];simp (disch:=omega) only[zB,rdC,k0,k2,k3,ex,ey,go_sem]
   repeat' first
    |((first|refine cA (c1 _) ?_ ?_|refine cG (fun e=>c2 _) ?_ ?_);exact flk;simp (disch:=omega) only[k0,k2,k3,ex,ey,go_sem])
    |(apply qh;exact rvk;simp only[go_sem];exact qi)
    |with_reducible apply aiA
   all_goals try exact clz
 ·have k2:((i:Int)<a.length)=False:=eqf om;rw[he,dqt ⟨g,fun j hj=>i2 j om⟩];simp (disch:=omega) only[zB,k2,go_sem]
  repeat' first
   |(apply qh;exact rvk;simp only[go_sem];exact qi)
theorem qzT(x:Co)(k:Nat)(h:List AObj)(ho:CoOk x)(hk:k<x.col.length):ACalls Tryz.prog 181 [.agg (coC x),qr (x.col.getD k [])] h (.bool (cmB x k)) h:=by
 have hsg:=ho.sg;have hcl:=ho.cl k hk;have htn:=ho.tn;obtain⟨R,hR⟩: ∃R,R=cmB x k:=⟨_,rfl⟩
 rw[←hR];unfold cmB at hR;have hce:=ho.ce k hk;have hct: ∀s,clT x k s=if (x.col.getD k []).getD s 0<0 then none else some ((x.tok.getD s []).getD ((x.col.getD k []).getD s 0).toNat default).text:=fun _=>rfl
 obtain⟨c,hc⟩: ∃c,c=x.col.getD k []:=⟨_,rfl⟩
 rw[←hc]at hcl hce ⊢;simp only[←hc]at hct;refine acO qu0 ?_;simp (disch:=omega) only[qtG,coC,qr,go_sem];refine qn (T:=fun i:Nat=>qP 42 [(1,qr c),(2,.op h.length 1 0),(5,.int .i64 i)]) (H:=fun _=>h++ [.mem 1 26 (coC x)])
  (inv:=fun i=>i≤c.length∧ ∀j,j<i→(decide (clT x k j=none)|| !decide (clT x k j=clT x k 0))=false) (m:=fun i=>c.length-i) 0 ⟨nzl _,fun j hj=>absurd hj (nnz j)⟩ (Wk.temps ?_) ?_
 ·(simp only[qr,go_sem,qf,qc,qa,qe];try (repeat' first|(with_reducible apply aiA)|(apply qg;omega)|(apply qd;rfl)|exact qi))
 rintro i ⟨i1,i2⟩ K hK
 by_cases hi:i<c.length
 ·have k1:((i:Int)<c.length)=True:=eqt om;have k0:(0≤(i:Int))=True:=eqt om;have k2:((0:Int)<c.length)=True:=eqt om;have k3:((i:Int)<x.tok.length)=True:=eqt om;have k4:((0:Int)<x.tok.length)=True:=eqt om;have hno:(decide (clT x k i=none)|| !decide (clT x k i=clT x k 0))=true→R=false:=fun hx=>by rw[hR,qv.2 ⟨i,om,hx⟩];rfl
  have hS:(decide (clT x k i=none)|| !decide (clT x k i=clT x k 0))=false→ ∀j,j<i+1→(decide (clT x k j=none)|| !decide (clT x k j=clT x k 0))=false:=fun hx j hj=>by
   by_cases e:j=i
   ·subst e;exact hx
   ·exact i2 j om
  have h0:c.getD i 0<0∨(0≤c.getD 0 0):=by
   by_cases e:i=0
   ·subst e;omega
   ·have:=i2 0 om
    have h1:=hct 0
    by_cases g:c.getD 0 0<0
    ·rw[ipo g]at h1;rw[h1]at this;simp at this
    ·exact .inr om
  have e1:=hce i om;have e2:=hce 0 om;have t1:=hct i;have t2:=hct 0;obtain⟨t,ht⟩: ∃t,t=c.getD i 0:=⟨_,rfl⟩
  obtain⟨t0,ht0⟩: ∃t0,t0=c.getD 0 0:=⟨_,rfl⟩
  have et:=ht.symm;have et0:=ht0.symm;rw[et]at h0 e1 t1;rw[et0]at h0 e2 t2;obtain⟨l,hl⟩: ∃l,l=x.tok.getD i []:=⟨_,rfl⟩
  obtain⟨l0,hl0⟩: ∃l0,l0=x.tok.getD 0 []:=⟨_,rfl⟩
  have el:=hl.symm;have el0:=hl0.symm;rw[el]at e1 t1;rw[el0]at e2 t2
  by_cases g:t<0
  ·have q1:(t<0)=True:=eqt g;rw[ipo g]at t1;rw[hno (by rw[t1];rfl)];simp (disch:=omega) only[coC,qr,k0,k1,et,q1,go_sem]
   repeat' first
    |(apply qb;exact rvk;simp only[go_sem];exact qi)
    |with_reducible apply aiA
   all_goals try exact clz
  have q1:(t<0)=False:=eqf g;rw[ine g]at t1;have g0: ¬t0<0:=by omega
  rw[ine g0]at t2;have q2:(0≤t)=True:=eqt om;have q3:(0≤t0)=True:=eqt om;have q4:(t<l.length)=True:=eqt (by rcases e1 with e|e;omega;omega);have q5:(t0<l0.length)=True:=eqt (by rcases e2 with e|e;omega;omega);obtain⟨a,ha⟩: ∃a,a=l.getD t.toNat default:=⟨_,rfl⟩
  obtain⟨a0,ha0⟩: ∃a0,a0=l0.getD t0.toNat default:=⟨_,rfl⟩
  have ea:=ha.symm;have ea0:=ha0.symm;rw[ea]at t1;rw[ea0]at t2;rw[t1,t2]at hno;have z0:Int.toNat 0=0:=rfl
  by_cases g2:a.text=a0.text
  ·have q6:(a.text=a0.text)=True:=eqt g2;simp (disch:=omega) only[coC,qr,ql,zQ,tkC,k0,k1,k2,k3,k4,et,et0,el,el0,ea,ea0,q1,q2,q3,q4,q5,q6,z0,go_sem]
   repeat' first
    |with_reducible apply aiA
   all_goals try exact clz
   refine hK _ _ (i+1) ⟨hi,hS (by rw[t1,t2,g2];simp)⟩ om (Wk.temps ?_)
   (simp only[qr,go_sem,qf,qc,qa,qe];try (repeat' first|(with_reducible apply aiA)|(apply qg;omega)|(apply qd;rfl)|exact qi))
  ·have q6:(a.text=a0.text)=False:=eqf g2;rw[hno (by simp[g2])];simp (disch:=omega) only[coC,qr,ql,zQ,tkC,k0,k1,k2,k3,k4,et,et0,el,el0,ea,ea0,q1,q2,q3,q4,q5,q6,z0,go_sem]
   repeat' first
    |(apply qb;exact rvk;simp only[go_sem];exact qi)
    |with_reducible apply aiA
   all_goals try exact clz
 ·have k1:((i:Int)<c.length)=False:=eqf om;have hV:R=true:=by rw[hR,qk.2 fun j hj=>i2 j om];rfl
  rw[hV];simp (disch:=omega) only[coC,qr,k1,go_sem]
  repeat' first
   |(apply qb;exact rvk;simp only[go_sem];exact qi)
theorem qAk(x:Co)(f t s:Nat)(h:List AObj)(ho:CoOk x)(ht:t≤x.col.length)(hs:s<x.sig.length)(hn:x.col.length≤1000000000):ACalls Tryz.prog 236 [.agg (coC x),.int .i64 (f:Int),.int .i64 (t:Int),.int .i64 (s:Int)] h (strs (rdG x s f (t-f))) h:=by
 have htn:=ho.tn;refine acO qva ?_;simp (disch:=omega) only[qtO,coC,go_sem];have eM:qQ [AV.str []] 0=zM (rdG x s f 0):=rfl;rw[eM];refine qn (T:=fun i:Nat×Nat×AObj=>qP 42 [(2,.int .i64 (t:Int)),(3,.int .i64 (s:Int)),(4,.op h.length 1 0),(9,.osl (h.length+2) i.2.1 1 0 (rdG x s f i.1).length),(10,.int .i64 ((f+i.1:Nat):Int))])
  (H:=fun i=>h++ [.mem 1 26 (coC x),.emp 1,.mem i.2.1 9 (zM (rdG x s f i.1)),i.2.2,.emp 0])
  (inv:=fun i=>i.1≤t-f∧qO [i.2.2] 0=true) (m:=fun i=>t-f-i.1) (0,1,.emp 0) ⟨nzl _,rfl⟩ (Wk.temps ?_) ?_
 ·(simp only[rdG,lnl,Nat.add_zero,go_sem,qf,qc,qa,qe];try (repeat' first|(with_reducible apply aiA)|(apply qg;omega)|(apply qd;rfl)|exact qi))
 rintro⟨d,v,O⟩ ⟨i1,i2⟩ K hK;simp only at i1 i2 hK;have i2': ∀m,qO (O::m) 0=true:=fun _=>i2
 have hln:=qaq x s f d;have hst:rdG x s f (d+1)=rdG x s f d++(clT x (f+d) s).toList:=rfl;obtain⟨L,hL⟩: ∃L,L=rdG x s f d:=⟨_,rfl⟩
 rw[←hL]at hln hst;have eL:=hL.symm;have eC:=zD L
 by_cases hi:f+d<t
 ·have k1:(((f+d:Nat):Int)<t)=True:=eqt om;have k2:(((f+d:Nat):Int)<x.col.length)=True:=eqt om;have k0:(0≤((f+d:Nat):Int))=True:=eqt om;have k3:((s:Int)<x.tok.length)=True:=eqt om;have k4:(0≤(s:Int))=True:=eqt om;have hct:clT x (f+d) s=if (x.col.getD (f+d) []).getD s 0<0 then none else some ((x.tok.getD s []).getD ((x.col.getD (f+d) []).getD s 0).toNat default).text:=rfl
  have hce:=ho.ce (f+d) om s hs;have hcl:=ho.cl (f+d) om;obtain⟨c,hc⟩: ∃c,c=x.col.getD (f+d) []:=⟨_,rfl⟩
  have ec:=hc.symm;rw[ec]at hct hce hcl;have k5:((s:Int)<c.length)=True:=eqt om;obtain⟨q,hq⟩: ∃q,q=c.getD s 0:=⟨_,rfl⟩
  have eq:=hq.symm;rw[eq]at hct hce;obtain⟨l,hl⟩: ∃l,l=x.tok.getD s []:=⟨_,rfl⟩
  have el:=hl.symm;rw[el]at hct hce;have eTk:List.take L.length (zM L)=zM L:=ltl om
  by_cases g:q<0
  ·have q1:(q<0)=True:=eqt g;have q1':(0≤q)=False:=eqf om;rw[ipo g]at hct;have hst:rdG x s f (d+1)=L:=by rw[hst,hct];simp
   simp (disch:=omega) only[coC,qp,qr,k0,k1,k2,k4,k5,i2',eL,ec,eq,q1',go_sem]
   repeat' first
    |with_reducible apply aiA
   all_goals try exact clz
   refine hK _ _ (d+1,v,O) ⟨om,i2⟩ (by simp only;omega) ?_;simp only[hst];refine Wk.temps ?_
   (simp only[go_sem,qf,qc,qa,qe];try (repeat' first|(with_reducible apply aiA)|(apply qg;omega)|(apply qd;rfl)|exact qi))
  ·have q1:(q<0)=False:=eqf g;have q1':(0≤q)=True:=eqt om;have q2:(q<l.length)=True:=eqt (by rcases hce with e|e;omega;omega);rw[ine g]at hct;obtain⟨w,hw⟩: ∃w,w=l.getD q.toNat default:=⟨_,rfl⟩
   have ew:=hw.symm;rw[ew]at hct;have hst:rdG x s f (d+1)=L++ [w.text]:=by rw[hst,hct];rfl
   simp (disch:=omega) only[coC,qp,qr,ql,zQ,tkC,k0,k1,k2,k3,k4,k5,i2',eL,ec,eq,el,ew,q1',q2,Nat.mul_one,eC,eTk,go_sem]
   repeat' first
    |with_reducible apply aiA
   all_goals try exact clz
   have eA:zM L++ [AV.str w.text]=zM (rdG x s f (d+1)):=by rw[hst,qbH];rfl
   have eD:(AV.str w.text::List.drop 1 (qQ [AV.str []] 1))= [AV.str w.text]:=rfl
   try rw[eA]
   try rw[eD]
   refine hK _ _ (d+1,v+1,.mem (qq (some O)+1) 9 [.str w.text]) ⟨om,rfl⟩ (by simp only;omega) ?_;simp only[hst,lap,lco,lnl];refine Wk.temps ?_
   (simp only[go_sem,qf,qc,qa,qe];try (repeat' first|(with_reducible apply aiA)|(apply qg;omega)|(apply qd;rfl)|exact qi))
 ·have k1:(((f+d:Nat):Int)<t)=False:=eqf om;obtain rfl:d=t-f:=by omega
  rw[eL];simp (disch:=omega) only[k1,go_sem]
  repeat' first
   |(apply qb;exact rvk;simp only[go_sem])
  rw[ipo (by rw[zD];exact nlr _)];exact qaQ _ (fun _=>rfl) rfl
theorem qyy{h M:List AObj}{a0 a1 a2 a3 a4 a5 a6 a7:AObj}:(h++a0::a1::a2::a3::a4::a5::a6::a7::M).length=h.length+8+M.length:=by
 simp only[lap,lco];omega
theorem qfQ{h M:List AObj}{a0 a1 a2 a3 a4 a5 a6 a7:AObj}{j:Nat}:getO (h.length+8+j) (h++a0::a1::a2::a3::a4::a5::a6::a7::M)=M[j]? :=by
 unfold getO;rw[List.getElem?_append_right om,show h.length+8+j-h.length=j+8 by omega];rfl
theorem qwE{h M:List AObj}{a0 a1 a2 a3 a4 a5 a6 a7 o:AObj}{j:Nat}:setO (h.length+8+j) (h++a0::a1::a2::a3::a4::a5::a6::a7::M) o=h++a0::a1::a2::a3::a4::a5::a6::a7::M.set j o:=by
 unfold setO;rw[List.set_append_right _ _ om,show h.length+8+j-h.length=j+8 by omega];rfl
theorem qn8{base:Nat}{L:List Rd}{fz:Nat→Bool}{H:List AObj}{d:Nat}(hf: ∀j,j<L.length→fz (base+j)=true)(hj: ∀j,j<L.length→getO (base+j) H=some (.mem (L.getD j default).src.length 3 (qF (L.getD j default).src))):
  VLe (.sl L.length fun i=>List.map (rei fz H (d+2)) (List.take 2 (List.drop (i*2) (ji base L)))) (zB L):=by
 refine VLe.sl (fun i hi=> ?_);rw[qf6 hi];refine⟨ILe.refl _,?_,trivial⟩;show ILe (rei fz H (d+1+1) (.osl (base+i) _ 1 0 _)) _;rw[rei_osl,ipo (hf i hi),hj i hi];exact qfS (fun _=>rfl) rfl
theorem qAo(x:Co)(f t:Nat)(h:List AObj)(ho:CoOk x)(ht:t≤x.col.length)(hn:x.col.length≤1000000000):ACalls Tryz.prog 180 [.agg (coC x),.int .i64 (f:Int),.int .i64 (t:Int)] h (zB (qcf x f t)) h:=by
 have zl: ∀g,valL g .len [strs x.sig]= .int .i64 x.sig.length:=fun _=>rfl
 have zo: ∀g,okL g .len [strs x.sig]=True:=fun _=>eqt trivial
 refine acO quZ ?_;simp (disch:=omega) only[qtF,coC,go_sem];have eM:qQ [AV.nl,AV.nl] 0=ji (h.length+8) (jG x f (t-f) 0):=rfl
 try rw[eM]
 have eO: ∀l:List AObj,l=l++qcC (jG x f (t-f) 0):=fun l=>by simp[jG,qcC]
 refine qn (T:=fun i:Nat×Nat×AObj×AObj×AObj=>qP 64 [(1,.int .i64 (f:Int)),(2,.int .i64 (t:Int)),(3,.op h.length 1 0),(7,.osl (h.length+2) i.2.1 2 0 (jG x f (t-f) i.1).length),(8,.int .i64 i.1)])
  (H:=fun i=>h++ .mem 1 26 (coC x):: .emp 1:: .mem i.2.1 89 (ji (h.length+8) (jG x f (t-f) i.1))::i.2.2.1:: .emp 0::i.2.2.2.1::i.2.2.2.2:: .emp 0::qcC (jG x f (t-f) i.1))
  (inv:=fun i=>i.1≤x.sig.length∧qO [i.2.2.1] 0=true∧qO [i.2.2.2.1] 0=true∧qO [i.2.2.2.2] 0=true) (m:=fun i=>x.sig.length-i.1) (0,1,.emp 0,.emp 0,.emp 0) ⟨nzl _,rfl,rfl,rfl⟩ (Wk.temps ?_) ?_
 ·(simp only[jG,lnl,go_sem,qf,qc,qa,qe];try (repeat' first|(with_reducible apply aiA)|(apply qg;omega)|(apply qd;rfl)|exact qi))
 rintro⟨s,v,O3,O5,O6⟩ ⟨i1,j3,j5,j6⟩ K hK;simp only at i1 j3 j5 j6 hK;have j5': ∀m,qO (O5::m) 0=true:=fun _=>j5
 have j6': ∀m,qO (O6::m) 0=true:=fun _=>j6
 have hst:jG x f (t-f) (s+1)=qcN (jG x f (t-f) s) (rdG x s f (t-f)) s:=rfl;have hln:=qdb x f (t-f) s;have hsg:=ho.sg;obtain⟨L,hL⟩: ∃L,L=jG x f (t-f) s:=⟨_,rfl⟩
 rw[←hL]at hst hln;have eL:=hL.symm
 by_cases hs:s<x.sig.length
 case neg=>
  have k1:((s:Int)<x.sig.length)=False:=eqf om;obtain rfl:s=x.sig.length:=by omega
  have hF:qcf x f t=L:=by rw[hL];rfl
  rw[hF];simp (disch:=omega) only[k1,eL,coC,zl,zo,go_sem]
  repeat' first
   |(apply qb;exact rvk;simp only[go_sem])
  rw[ipo (by rw[qae];omega)];exact qn8 (d:=5) (fun j _=>dqt om) (fun j hj=>by rw[qfQ];exact qc7 hj)
 have k1:((s:Int)<x.sig.length)=True:=eqt om;have c21:=fun h=>qAk x f t s h ho ht hs hn
 have hRd:=qbF x f (t-f) s;obtain⟨w,hw⟩: ∃w,w=rdG x s f (t-f):=⟨_,rfl⟩
 have hwl:w.length≤1000000000:=by have:=qaq x s f (t-f);rw[←hw]at this;omega
 rw[←hw]at hst;simp only[←hw]at c21;unfold coC at c21;rw[eL]at hRd;have hwL: ∀j,(L.getD j default).words.length≤1000000000:=zJ L (fun r=>r.words.length≤1000000000) (by decide) fun j hj=>by
  have h1:=hRd.nn j hj;obtain⟨y,ys,e⟩:=List.exists_cons_of_ne_nil h1;have h2:=hRd.wd j hj y (by rw[e];exact List.mem_cons_self);rw[h2]
  have:=qaq x y.toNat f (t-f)
  omega
 have hob:= @qc7 L;have eKl:=qae (h.length+8) L;simp (disch:=omega) only[coC,k1,eL,zl,zo,go_sem]
 repeat' first
  |(refine cA (c21 _) flk ?_;simp (disch:=omega) only[go_sem])
 --the search
 refine qn (T:=fun i:Nat×Bool×AObj=>qP 64 [(1,.int .i64 (f:Int)),(2,.int .i64 (t:Int)),(3,.op h.length 1 0),(7,.osl (h.length+2) v 2 0 L.length),(8,.int .i64 s),(9,strs w),(10,.bool i.2.1),(11,.int .i64 i.1)])
  (H:=fun i=>h++ .mem 1 26 (coC x):: .emp 1:: .mem v 89 (ji (h.length+8) (if i.2.1=true then jG x f (t-f) (s+1) else L))::i.2.2:: .emp 0::O5::O6:: .emp 0::qcC (if i.2.1=true then jG x f (t-f) (s+1) else L))
  (inv:=fun i=>i.1≤L.length∧qO [i.2.2] 0=true∧(i.2.1=false→ ∀j,j<i.1→(L.getD j default).words≠w)∧(i.2.1=true→(jG x f (t-f) (s+1)).length=L.length)) (m:=fun i=>L.length-i.1) (0,false,O3) ⟨nzl _,j3,fun _ j hj=>absurd hj (nnz j),fun e=>(by cases e)⟩ (Wk.temps ?_) ?_
 ·(simp only[go_sem,qf,qc,qa,qe];try (repeat' first|(with_reducible apply aiA)|(apply qg;omega)|(apply qd;rfl)|exact qi))
 rintro⟨k,fd,O4⟩ ⟨m1,m2,m3,m4⟩ K2 hK2;simp only at m1 m2 m3 m4 hK2;have m2': ∀m,qO (O4::m) 0=true:=fun _=>m2
 cases fd with
 |true=>
  have m4:=m4 rfl;have hS:L.length=(jG x f (t-f) (s+1)).length:=m4.symm;simp only[if_true]at hK2 ⊢
  by_cases hk:k<L.length
  ·have t1:((k:Int)<L.length)=True:=eqt om;simp (disch:=omega) only[t1,go_sem];refine hK _ _ (s+1,v,O4,O5,O6) ⟨hs,m2,j5,j6⟩ (by simp only;omega) ?_;simp only[←hS];refine Wk.temps ?_
   (simp only[go_sem,qf,qc,qa,qe];try (repeat' first|(with_reducible apply aiA)|(apply qg;omega)|(apply qd;rfl)|exact qi))
  ·have t1:((k:Int)<L.length)=False:=eqf om;simp (disch:=omega) only[t1,go_sem];refine hK _ _ (s+1,v,O4,O5,O6) ⟨hs,m2,j5,j6⟩ (by simp only;omega) ?_;simp only[←hS];refine Wk.temps ?_
   (simp only[go_sem,qf,qc,qa,qe];try (repeat' first|(with_reducible apply aiA)|(apply qg;omega)|(apply qd;rfl)|exact qi))
 |false=>
 have m3:=m3 rfl;simp only[Bool.false_eq_true,if_false]at hK2 ⊢
 by_cases hk:k<L.length
 ·have t1:((k:Int)<L.length)=True:=eqt om;have t0:(0≤(k:Int))=True:=eqt om;have c86:=fun h=>qyQ (L.getD k default).words w h (hwL k) hwl
  obtain⟨A,B,a1,a2,a3⟩:=qa3 (h.length+8) L hk;have a3:=a3 ((L.getD k default).src++ [(s:Int)]);have hob:=hob hk;have gw:(ji (h.length+8) L)[k*2]? =some (strs (L.getD k default).words):=by
   rw[a2,List.append_assoc,List.getElem?_append_right om,show k*2-A.length=0 by omega];rfl
  have gg:(ji (h.length+8) L)[k*2+1]? =some (.osl (h.length+8+k) (L.getD k default).src.length 1 0 (L.getD k default).src.length):=by
   rw[a2,List.append_assoc,List.getElem?_append_right om,show k*2+1-A.length=1 by omega];rfl
  have hSl:(L.getD k default).src.length≤1000:=by
   have:=(qbG x f (t-f) s).src (L.getD k default) (by rw[eL,gdqA,zY hk];exact List.getElem_mem hk)
   have:=qcQ (hi:=(s:Int)) (lo:=0) this.1 this.2
   omega
  have hrd:qet L w=k→jG x f (t-f) (s+1)=L.set k ⟨w,(L.getD k default).src++ [(s:Int)]⟩:=fun e=>by
   rw[hst];unfold qcN;rw[e,ine om,itn]
  obtain⟨r,hr⟩: ∃r,r=L.getD k default:=⟨_,rfl⟩
  have er:=hr.symm;rw[er]at a2 a3 hob gw gg hSl hrd;simp only[er]at c86;have k22:(k*2+2≤(ji (h.length+8) L).length)=True:=eqt om;have k21:(k*2+1≤(ji (h.length+8) L).length)=True:=eqt om
  by_cases g:r.words=w
  case neg=>
   rw[dqf g]at c86;simp (disch:=omega) only[t0,t1,gw,eKl,Option.getD_some,Option.isSome_some,Nat.mul_one,go_sem]
   repeat' first
    |(refine cA (c86 _) flk ?_;simp (disch:=omega) only[t0,t1,eKl,Option.getD_some,Option.isSome_some,Nat.mul_one,go_sem])
    |with_reducible apply aiA
   all_goals try exact clz
   refine hK2 _ _ (k+1,false,O4) ⟨hk,m2,fun _ j hj=> ?_,fun e=>(by cases e)⟩ (by simp only;omega) ?_
   ·by_cases e:j=k
    ·subst e;rw[er];exact g
    ·exact m3 j (by simp only at hj;omega)
   simp only[Bool.false_eq_true,if_false];refine Wk.temps ?_
   (simp only[go_sem,qf,qc,qa,qe];try (repeat' first|(with_reducible apply aiA)|(apply qg;omega)|(apply qd;rfl)|exact qi))
  rw[dqt g]at c86;have hix:qet L w=k:=by
   unfold qet;refine ko hk (fun j hj=>dqf fun e=>m3 j hj e.symm) (dqt ?_);rw[er,g]
  have hst2:=hrd hix;have hos:= @qf9 L k ⟨w,r.src++ [(s:Int)]⟩;rw[←hst2]at hos;rw[g,←hst2]at a3;rw[g]at a2;dsimp only at hos;obtain⟨S,hS⟩: ∃S,S=r.src:=⟨_,rfl⟩
  rw[←hS]at a2 a3 hob hos gg hSl;rw[lap,List.length_singleton]at a3 hos;rw[jZ,show qF [(s:Int)]= [AV.int .i64 (s:Int)]from rfl]at hos;have gs:List.take (k*2+1) (ji (h.length+8) L)++ [.osl (h.length+8+k) (S.length+1) 1 0 (S.length+1)]++List.drop (k*2+1+1) (ji (h.length+8) L)=ji (h.length+8) (jG x f (t-f) (s+1)):=by
   rw[a2,a3];exact qjt om
  have eI:=qL S;have el2:(jG x f (t-f) (s+1)).length=L.length:=by rw[hst2,List.length_set]
  have eTi:List.take S.length (qF S)=qF S:=ltl om;simp (disch:=omega) only[t0,t1,gw,eKl,Option.getD_some,Option.isSome_some,Nat.mul_one,itn,go_sem]
  repeat' first
   |(refine cA (c86 _) flk ?_;simp (disch:=omega) only[t0,t1,gg,m2',eKl,Option.getD_some,Option.isSome_some,qfQ,qwE,hob,eTi,Nat.mul_one,itn,go_sem])
   |with_reducible apply aiA
  all_goals try exact clz
  all_goals try (simp only[qaE,jc,qfQ,hob,qa0,jb,if_true,Option.getD_some,eI,beq_self_eq_true];done)
  all_goals try (simp only[bne_iff_ne];omega)
  all_goals try (simp only[jc,qfQ,hob,jb,if_true,Option.getD_some,eI];exact nlr _)
  rw[gs];have eD:(AV.int .i64 (s:Int)::List.drop 1 (qQ [i6 0] 1))= [AV.int .i64 (s:Int)]:=rfl;simp only[eD];rw[hos];refine hK2 _ _ (k+1,true,.mem (qq (some O4)+1) 3 [.int .i64 (s:Int)]) ⟨hk,rfl,fun e=>(by cases e),fun _=>el2⟩ (by simp only;omega) ?_;simp only[if_true,coC];refine Wk.temps ?_
  (simp only[go_sem,qf,qc,qa,qe];try (repeat' first|(with_reducible apply aiA)|(apply qg;omega)|(apply qd;rfl)|exact qi))
 --not there
 obtain rfl:k=L.length:=by omega
 have t1:((L.length:Int)<L.length)=False:=eqf om;have hix:qet L w<0:=by
  rcases qad L w with⟨i,h1,h2,_⟩|⟨_,h2⟩
  ·exact absurd h2 (m3 i h1)
  ·exact h2
 have hst2:jG x f (t-f) (s+1)=L++ [⟨w,[(s:Int)]⟩]:=by
  rw[hst];unfold qcN;rw[ipo hix]
 have eTk:List.take (L.length*2) (ji (h.length+8) L)=ji (h.length+8) L:=ltl om;clear hK2;simp (disch:=omega) only[t1,j5',j6',eTk,eKl,Nat.mul_one,go_sem]
 repeat' first
  |with_reducible apply aiA
 all_goals try exact clz
 have el2:(jG x f (t-f) (s+1)).length=L.length+1:=by rw[hst2,lap];rfl
 have eo:qcC (jG x f (t-f) (s+1))=qcC L++ [.mem 1 3 [.int .i64 (s:Int)]]:=by rw[hst2,qf7];rfl
 have ek:ji (h.length+8) (jG x f (t-f) (s+1))=ji (h.length+8) L++ [strs w,.osl (h.length+8+L.length) 1 1 0 1]:=by rw[hst2,qd5];rfl
 have eset:(ji (h.length+8) L++ [strs w,AV.osl (h.length+5) (qq (some O5)+1) 1 0 1]).set (L.length*2+1) (.osl (h.length+8+L.length) 1 1 0 1)=ji (h.length+8) L++ [strs w,.osl (h.length+8+L.length) 1 1 0 1]:=by
  rw[List.set_append_right _ _ om,eKl,show L.length*2+1-2*L.length=1 by omega];rfl
 refine hK _ _ (s+1,v+1,O4,.emp (qq (some O5)+1+1),.mem (qq (some O6)+1) 89 [strs w,.osl (h.length+5) (qq (some O5)+1) 1 0 1]) ⟨hs,m2,rfl,rfl⟩ (by simp only;omega)
  (Wk.trans (Wk.moveCell (i:=h.length+2) (j:=h.length+5) (a:=L.length*2+1) (w:=v+1) (v:=qq (some O5)+1) (ty:=3) (ty':=89) (ds:=ji (h.length+8) L++ [strs w,.osl (h.length+5) (qq (some O5)+1) 1 0 1]) (cs:= [.int .i64 (s:Int)]) (sz:=1) (off:=0) (len:=1) ?m1 ?m2 ?m3 om) ?m4)
 case m1=>simp only[go_sem]
 case m2=>
  rw[List.getElem?_append_right om,show L.length*2+1-(ji (h.length+8) L).length=1 by omega];rfl
 case m3=>simp only[go_sem];rfl
 case m4=>
  have eD:(AV.int .i64 (s:Int)::List.drop 1 (qQ [i6 0] 1))= [AV.int .i64 (s:Int)]:=rfl;have eD2: ∀c:AV,(strs w::c::List.drop 2 (qQ [AV.nl,AV.nl] 1))= [strs w,c]:=fun _=>rfl
  simp only[eo,ek,el2,coC,eD,eD2,qyy,qf8,go_sem,eset,List.append_assoc,lca];refine Wk.temps ?_
  (simp only[go_sem,qf,qc,qa,qe];try (repeat' first|(with_reducible apply aiA)|(apply qg;omega)|(apply qd;rfl)|exact qi))
def cvN(l:List Un)(i k:Nat):Bool:=zE (fun j=>decide ((l.getD j default).frm≤k)&&decide ((k:Int)<(l.getD j default).to)) i
theorem qqU(l:List Un)(k:Nat):cvN l l.length k=cvB l k:=rfl
theorem qyU(x:Co)(l:List Un)(h:List AObj)(hz:qcM x)(hu:qca l)(hp:kh SG h):ACalls Tryz.prog 115 [.agg (coC x),qx l] h (.int .i64 (vaE x l)) h:=by
 have c82:=fun l'=>coR x (h++l') hz (hp.app l')
 obtain⟨R,hR⟩: ∃R,R=vaE x l:=⟨_,rfl⟩
 rw[←hR];unfold vaE rgB qlM cvA at hR;obtain⟨e,he⟩: ∃e,e=coE x:=⟨_,rfl⟩
 have eh:=he.symm;rw[eh]at c82 hR;unfold coC at c82
 by_cases g:e=0
 case neg=>
  have k1:(e=0)=False:=eqf g;rw[ipo g]at hR;rw[hR];refine acO qpd ?_;simp (disch:=omega) only[qqf,coC,go_sem]
  repeat' first
   |(refine cA (c82 _) flk ?_;simp (disch:=omega) only[k1,go_sem])
   |(apply qb;exact rvk;simp only[go_sem];exact qi)
 have k1:(e=0)=True:=eqt g;rw[ine (fun hc=>hc g)]at hR;have ho:=qdC (eh.trans g);have hcl:=hz.cl;have hn:=hu.n;have zl: ∀g,valL g .len [qp x.col]= .int .i64 x.col.length:=fun _=>rfl
 have zo: ∀g,okL g .len [qp x.col]=True:=fun _=>eqt trivial
 have k0:(0≤(x.col.length:Int))=True:=eqt om;have k2:((x.col.length:Int)≤9223372036854775807)=True:=eqt om;refine acO qpd ?_;simp (disch:=omega) only[qqf,coC,go_sem]
 repeat' first
  |(refine cA (c82 _) flk ?_;simp (disch:=omega) only[k1,k0,zl,zo,go_sem])
  |with_reducible apply aiA
 all_goals try exact clz
 all_goals try rw[itn]
 rw[qp5];have p0:bC (fun _=>false) x.col.length=bC (cvN l 0) x.col.length:=rfl;rw[p0];refine qn (T:=fun i:Nat×AObj=>qP 105 [(1,qx l),(2,.op h.length 1 0),(5,.osl (h.length+1) 1 1 0 x.col.length),(6,.int .i64 i.1)])
  (H:=fun i=>h++ [.mem 1 26 (coC x),.mem 1 4 (bC (cvN l i.1) x.col.length),i.2])
  (inv:=fun i=>i.1≤l.length∧qO [i.2] 0=true∧ ∀j,j<i.1→unB x (beH l j) (l.getD j default)=true) (m:=fun i=>l.length-i.1) (0,.emp 0) ⟨nzl _,rfl,fun j hj=>absurd hj (nnz j)⟩ (Wk.temps ?_) ?_
 ·(simp only[qx,go_sem,qf,qc,qa,qe];try (repeat' first|(with_reducible apply aiA)|(apply qg;omega)|(apply qd;rfl)|exact qi))
 rintro⟨i,O⟩ ⟨i1,i2,i3⟩ K hK;simp only at i1 i2 i3 hK;have i2': ∀m,qO (O::m) 0=true:=fun _=>i2
 by_cases hi:i<l.length
 ·have t1:((i:Int)<l.length)=True:=eqt om;have t0:(0≤(i:Int))=True:=eqt om;have hno:unB x (beH l i) (l.getD i default)=false→R=20:=fun hx=>by
   rw[hR,ipo];rw[qv.2 ⟨i,hi,by rw[hx];rfl⟩];rfl
  have hun:unB x (beH l i) (l.getD i default)= !(decide ((l.getD i default).frm≤beH l i)||(decide ((l.getD i default).frm<0)||(decide ((l.getD i default).to≤(l.getD i default).frm)||(decide ((x.col.length:Int)<(l.getD i default).to)|| !decide ((l.getD i default).rds=qcf x (l.getD i default).frm.toNat (l.getD i default).to.toNat))))):=rfl;have hbe:beH l i=if i=0 then-1 else (l.getD (i-1) default).to:=rfl
  have hcs: ∀k,cvN l (i+1) k=(cvN l i k||(decide ((l.getD i default).frm≤k)&&decide ((k:Int)<(l.getD i default).to))):=fun k=>qbJ _ _
  have hrs:qh2 (l.getD i default).rds:=⟨hu.rd i,hu.sr i,hu.wd i⟩
  have hS:unB x (beH l i) (l.getD i default)=true→ ∀j,j<i+1→unB x (beH l j) (l.getD j default)=true:=fun hx j hj=>by
   by_cases e:j=i
   ·subst e;exact hx
   ·exact i3 j om
  obtain⟨u,hux⟩: ∃u,u=l.getD i default:=⟨_,rfl⟩
  have eu:=hux.symm;simp only[eu]at hno hun hcs hrs hS
  by_cases a1:u.frm<0
  ·have q1:(u.frm<0)=True:=eqt a1;rw[hno (by rw[hun,dqt a1];simp)];simp (disch:=omega) only[coC,qx,unC,t0,t1,eu,i2',q1,go_sem]
   repeat' first
    |(refine qj ( .bool false) ?_;simp (disch:=omega) only[zl,go_sem])
    |(apply qb;exact rvk;simp only[go_sem];exact qi)
    |with_reducible first|intro _|apply aiA
   all_goals try exact clz
  have q1:(u.frm<0)=False:=eqf a1
  by_cases a2:u.to≤u.frm
  ·have q2:(u.to≤u.frm)=True:=eqt a2;rw[hno (by rw[hun,dqt a2];simp)];simp (disch:=omega) only[coC,qx,unC,t0,t1,eu,i2',q1,q2,go_sem]
   repeat' first
    |(refine qj ( .bool false) ?_;simp (disch:=omega) only[zl,go_sem])
    |(apply qb;exact rvk;simp only[go_sem];exact qi)
    |with_reducible first|intro _|apply aiA
   all_goals try exact clz
  have q2:(u.to≤u.frm)=False:=eqf a2
  by_cases a3:(x.col.length:Int)<u.to
  ·have q3:((x.col.length:Int)<u.to)=True:=eqt a3;rw[hno (by rw[hun,dqt a3];simp)];simp (disch:=omega) only[coC,qx,unC,t0,t1,eu,i2',q1,q2,q3,zl,zo,go_sem]
   repeat' first
    |(refine qj ( .bool false) ?_;simp (disch:=omega) only[go_sem])
    |(apply qb;exact rvk;simp only[go_sem];exact qi)
    |with_reducible first|intro _|apply aiA
   all_goals try exact clz
  have q3:((x.col.length:Int)<u.to)=False:=eqf a3;obtain⟨F,hF⟩: ∃F:Nat,u.frm=(F:Int):=⟨u.frm.toNat,om⟩
  obtain⟨G,hG⟩: ∃G:Nat,u.to=(G:Int):=⟨u.to.toNat,om⟩
  have c180:=fun h=>qAo x F G h ho om hcl
  have hsz:qh2 (qcf x F G):=qkW x F (G-F) om x.sig.length (by have:=ho.sg;omega);have c179:=fun h=>qAx u.rds (qcf x F G) h hrs hsz
  unfold coC at c180;rw[hF,hG,itn,itn]at hun;simp only[hF,hG]at q1 q2 q3 a1 a2 a3 hcs;have fin:unB x (beH l i) u=true→True:=fun _=>trivial
  have hlast: ∀(B:Bool),B=decide (u.rds=qcf x F G)→(¬(i≠0∧(F:Int)≤(l.getD (i-1) default).to))→unB x (beH l i) u=B:=fun B hB hg=>by
   have e1:decide ((F:Int)≤beH l i)=false:=dqf (by
    rw[hbe];split
    ·omega
    ·rename_i hx
     exact fun hc=>hg ⟨hx,hc⟩)
   rw[hun,e1,dqf a1,dqf a2,dqf a3,←hB];simp
  obtain⟨D,hD⟩: ∃D,D=qcf x F G:=⟨_,rfl⟩
  rw[←hD]at hlast;simp only[←hD]at c180 c179
  --behind the head of the condition:the rest
  by_cases a4:i≠0∧(F:Int)≤(l.getD (i-1) default).to
  ·obtain⟨b1,b2⟩:=a4;have hm:((i:Int)-1)=((i-1:Nat):Int):=by omega
   have m1:(((i-1:Nat):Int)<l.length)=True:=eqt om;have m0:(0≤((i-1:Nat):Int))=True:=eqt om;have t2:((0:Int)<i)=True:=eqt om;have hV:R=20:=hno (by
    rw[hun,hbe,ine b1,dqt b2]
    rfl)
   obtain⟨u0,hu0⟩: ∃u0,u0=l.getD (i-1) default:=⟨_,rfl⟩
   have eu0:=hu0.symm;rw[eu0]at b2;have q4:((F:Int)≤u0.to)=True:=eqt b2;rw[hV];simp (disch:=omega) only[coC,qx,unC,t0,t1,t2,hm,m0,m1,eu,eu0,i2',hF,hG,q1,q2,q3,q4,zl,zo,go_sem]
   repeat' first
    |(refine qj ( .bool false) ?_;simp (disch:=omega) only[go_sem])
    |(apply qb;exact rvk;simp only[go_sem];exact qi)
    |with_reducible apply aiA
   all_goals try exact clz
  have hlast:=fun B hB=>hlast B hB a4
  have hst: ∀(z:Bool),z=decide (u.rds=D)→(z=true→ ∀j,j<i+1→unB x (beH l j) (l.getD j default)=true)∧(z=false→R=20):=fun z hz=>⟨fun e=>hS (by rw[hlast z hz,e]),fun e=>hno (by rw[hlast z hz,e])⟩
  obtain⟨z,hzz⟩: ∃z,z=decide (u.rds=D):=⟨_,rfl⟩
  obtain⟨hst1,hst2⟩:=hst z hzz;simp only[←hzz]at c179;have inner:z=true→ ∀(K2:Prop) ,True:=fun _ _=>trivial
  by_cases b0:i=0
  ·have t2:((0:Int)<i)=False:=eqf om;cases z with
   |false=>
    rw[hst2 rfl];simp (disch:=omega) only[coC,qx,unC,t0,t1,t2,eu,i2',hF,hG,q1,q2,q3,zl,zo,go_sem]
    repeat' first
     |((first|refine cG (fun e=>c180 _) ?_ ?_|refine cG (fun e=>c179 _) ?_ ?_);exact flk;simp (disch:=omega) only[go_sem])
     |(apply qb;exact rvk;simp only[go_sem];exact qi)
     |with_reducible first|intro _|apply aiA
    all_goals try exact clz
   |true=>
   simp (disch:=omega) only[coC,qx,unC,t0,t1,t2,eu,i2',hF,hG,q1,q2,q3,zl,zo,go_sem]
   repeat' first
    |((first|refine cG (fun e=>c180 _) ?_ ?_|refine cG (fun e=>c179 _) ?_ ?_);exact flk;simp (disch:=omega) only[go_sem])
    |(apply qb;exact rvk;simp only[go_sem];apply qg)
    |with_reducible first|intro _|apply aiA
   all_goals try exact clz
   obtain⟨pf,hpf⟩: ∃pf:Nat→Nat→Bool,pf=fun m k=>cvN l i k||(decide (F≤k)&&decide (k<m)):=⟨_,rfl⟩
   have p1:bC (cvN l i) x.col.length=bC (pf F) x.col.length:=kZ fun k _=>by
    rw[hpf];dsimp only
    by_cases h1:F≤k
    ·rw[dqf (by omega: ¬k<F)];simp
    ·rw[dqf h1];simp
   rw[p1];refine qn (T:=fun m:Nat=>qP 105 [(1,qx l),(2,.op h.length 1 0),(5,.osl (h.length+1) 1 1 0 x.col.length),(6,.int .i64 i),(7,.op (h.length+2) (qq (some O)+1) 0),(8,.int .i64 m)])
    (H:=fun m=>h++ [.mem 1 26 (coC x),.mem 1 4 (bC (pf m) x.col.length),.mem (qq (some O)+1) 83 [.int .i64 (F:Int),.int .i64 (G:Int),zB u.rds]])
    (inv:=fun m=>F≤m∧m≤G) (m:=fun m=>G-m) F ⟨nlr _,om⟩ (Wk.temps ?_) ?_
   ·(simp only[qx,unC,go_sem,qf,qc,qa,qe];try (repeat' first|(with_reducible apply aiA)|(apply qg;omega)|(apply qd;rfl)|exact qi))
   rintro m ⟨m1',m2'⟩ K2 hK2
   by_cases hm':m<G
   ·have r1:((m:Int)<G)=True:=eqt om;have r0:(0≤(m:Int))=True:=eqt om;have r2:((m:Int)<x.col.length)=True:=eqt om;have mn:m<x.col.length:=by omega
    have r3:(m<x.col.length)=True:=eqt mn;have r4:(m+1≤x.col.length)=True:=eqt mn;have gl:=qal (pf m) x.col.length;have gs1:=qo1 (p:=pf m) mn;have hpn:bC (fun k=>pf m k||decide (k=m)) x.col.length=bC (pf (m+1)) x.col.length:=kZ fun k _=>by
     rw[hpf];dsimp only
     by_cases h1:k=m
     ·subst h1;rw[dqt (by omega:F≤k),dqt (by omega:k<k+1)];simp
     ·rw[dqf h1,Bool.or_false]
      by_cases h2:k<m
      ·rw[dqt h2,dqt (by omega:k<m+1)]
      ·rw[dqf h2,dqf (by omega: ¬k<m+1)]
    simp (disch:=omega) only[coC,qx,unC,r0,r1,r2,r4,gl,gs1,Nat.mul_one,Nat.zero_add,itn,Option.isSome_some,go_sem]
    try rw[hpn]
    refine hK2 _ _ (m+1) ⟨om,hm'⟩ om (Wk.temps ?_)
    (simp only[qx,unC,go_sem,qf,qc,qa,qe];try (repeat' first|(with_reducible apply aiA)|(apply qg;omega)|(apply qd;rfl)|exact qi))
   obtain rfl:m=G:=by omega
   have r1:((m:Int)<m)=False:=eqf om;have p2:bC (pf m) x.col.length=bC (cvN l (i+1)) x.col.length:=kZ fun k _=>by
    rw[hcs,hpf];dsimp only;have e1:decide ((F:Int)≤(k:Int))=decide (F≤k):=decide_eq_decide.2 om;have e2:decide ((k:Int)<(m:Int))=decide (k<m):=decide_eq_decide.2 om;rw[e1,e2]
   rw[p2];simp (disch:=omega) only[r1,go_sem];refine hK _ _ (i+1,.mem (qq (some O)+1) 83 [.int .i64 (F:Int),.int .i64 (m:Int),zB u.rds]) ⟨hi,rfl,hst1 rfl⟩ (by simp only;omega) (Wk.temps ?_)
   (simp only[qx,unC,go_sem,qf,qc,qa,qe];try (repeat' first|(with_reducible apply aiA)|(apply qg;omega)|(apply qd;rfl)|exact qi))
  have t2:((0:Int)<i)=True:=eqt om;have hm:((i:Int)-1)=((i-1:Nat):Int):=by omega
  have m1:(((i-1:Nat):Int)<l.length)=True:=eqt om;have m0:(0≤((i-1:Nat):Int))=True:=eqt om;have b4: ¬(F:Int)≤(l.getD (i-1) default).to:=fun hc=>a4 ⟨b0,hc⟩
  obtain⟨u0,hu0⟩: ∃u0,u0=l.getD (i-1) default:=⟨_,rfl⟩
  have eu0:=hu0.symm;rw[eu0]at b4;have q4:((F:Int)≤u0.to)=False:=eqf b4;cases z with
  |false=>
   rw[hst2 rfl];simp (disch:=omega) only[coC,qx,unC,t0,t1,t2,eu,i2',hF,hG,q1,q2,q3,zl,zo,hm,m0,m1,eu0,q4,go_sem]
   repeat' first
    |((first|refine cG (fun e=>c180 _) ?_ ?_|refine cG (fun e=>c179 _) ?_ ?_);exact flk;simp (disch:=omega) only[go_sem])
    |(apply qb;exact rvk;simp only[go_sem];exact qi)
    |with_reducible apply aiA
   all_goals try exact clz
  |true=>
  simp (disch:=omega) only[coC,qx,unC,t0,t1,t2,eu,i2',hF,hG,q1,q2,q3,zl,zo,hm,m0,m1,eu0,q4,go_sem]
  repeat' first
   |((first|refine cG (fun e=>c180 _) ?_ ?_|refine cG (fun e=>c179 _) ?_ ?_);exact flk;simp (disch:=omega) only[go_sem])
   |with_reducible apply aiA
  all_goals try exact clz
  obtain⟨pf,hpf⟩: ∃pf:Nat→Nat→Bool,pf=fun m k=>cvN l i k||(decide (F≤k)&&decide (k<m)):=⟨_,rfl⟩
  have p1:bC (cvN l i) x.col.length=bC (pf F) x.col.length:=kZ fun k _=>by
   rw[hpf];dsimp only
   by_cases h1:F≤k
   ·rw[dqf (by omega: ¬k<F)];simp
   ·rw[dqf h1];simp
  rw[p1];refine qn (T:=fun m:Nat=>qP 105 [(1,qx l),(2,.op h.length 1 0),(5,.osl (h.length+1) 1 1 0 x.col.length),(6,.int .i64 i),(7,.op (h.length+2) (qq (some O)+1) 0),(8,.int .i64 m)])
   (H:=fun m=>h++ [.mem 1 26 (coC x),.mem 1 4 (bC (pf m) x.col.length),.mem (qq (some O)+1) 83 [.int .i64 (F:Int),.int .i64 (G:Int),zB u.rds]])
   (inv:=fun m=>F≤m∧m≤G) (m:=fun m=>G-m) F ⟨nlr _,om⟩ (Wk.temps ?_) ?_
  ·(simp only[qx,unC,go_sem,qf,qc,qa,qe];try (repeat' first|(with_reducible apply aiA)|(apply qg;omega)|(apply qd;rfl)|exact qi))
  rintro m ⟨m1',m2'⟩ K2 hK2
  by_cases hm':m<G
  ·have r1:((m:Int)<G)=True:=eqt om;have r0:(0≤(m:Int))=True:=eqt om;have r2:((m:Int)<x.col.length)=True:=eqt om;have mn:m<x.col.length:=by omega
   have r3:(m<x.col.length)=True:=eqt mn;have r4:(m+1≤x.col.length)=True:=eqt mn;have gl:=qal (pf m) x.col.length;have gs1:=qo1 (p:=pf m) mn;have hpn:bC (fun k=>pf m k||decide (k=m)) x.col.length=bC (pf (m+1)) x.col.length:=kZ fun k _=>by
    rw[hpf];dsimp only
    by_cases h1:k=m
    ·subst h1;rw[dqt (by omega:F≤k),dqt (by omega:k<k+1)];simp
    ·rw[dqf h1,Bool.or_false]
     by_cases h2:k<m
     ·rw[dqt h2,dqt (by omega:k<m+1)]
     ·rw[dqf h2,dqf (by omega: ¬k<m+1)]
   simp (disch:=omega) only[coC,qx,unC,r0,r1,r2,r4,gl,gs1,Nat.mul_one,Nat.zero_add,itn,Option.isSome_some,go_sem]
   try rw[hpn]
   refine hK2 _ _ (m+1) ⟨om,hm'⟩ om (Wk.temps ?_)
   (simp only[qx,unC,go_sem,qf,qc,qa,qe];try (repeat' first|(with_reducible apply aiA)|(apply qg;omega)|(apply qd;rfl)|exact qi))
  obtain rfl:m=G:=by omega
  have r1:((m:Int)<m)=False:=eqf om;have p2:bC (pf m) x.col.length=bC (cvN l (i+1)) x.col.length:=kZ fun k _=>by
   rw[hcs,hpf];dsimp only;have e1:decide ((F:Int)≤(k:Int))=decide (F≤k):=decide_eq_decide.2 om;have e2:decide ((k:Int)<(m:Int))=decide (k<m):=decide_eq_decide.2 om;rw[e1,e2]
  rw[p2];simp (disch:=omega) only[r1,go_sem];refine hK _ _ (i+1,.mem (qq (some O)+1) 83 [.int .i64 (F:Int),.int .i64 (m:Int),zB u.rds]) ⟨hi,rfl,hst1 rfl⟩ (by simp only;omega) (Wk.temps ?_)
  (simp only[qx,unC,go_sem,qf,qc,qa,qe];try (repeat' first|(with_reducible apply aiA)|(apply qg;omega)|(apply qd;rfl)|exact qi))
 have t1:((i:Int)<l.length)=False:=eqf om;obtain rfl:i=l.length:=by omega
 rw[qk.2 fun j hj=>by rw[i3 j hj];rfl]at hR;clear hK;simp (disch:=omega) only[qx,t1,zl,zo,coC,go_sem];refine qn (T:=fun k:Nat=>qP 105 [(2,.op h.length 1 0),(5,.osl (h.length+1) 1 1 0 x.col.length),(9,.int .i64 k)])
  (H:=fun _=>h++ [.mem 1 26 (coC x),.mem 1 4 (bC (cvN l l.length) x.col.length),O])
  (inv:=fun k=>k≤x.col.length∧ ∀j,j<k→(!cvB l j&& !cmB x j)=false) (m:=fun k=>x.col.length-k) 0 ⟨nzl _,fun j hj=>absurd hj (nnz j)⟩ (Wk.temps ?_) ?_
 ·(simp only[go_sem,qf,qc,qa,qe];try (repeat' first|(with_reducible apply aiA)|(apply qg;omega)|(apply qd;rfl)|exact qi))
 rintro k ⟨k1',k2'⟩ K hK
 by_cases hk:k<x.col.length
 ·have t1:((k:Int)<x.col.length)=True:=eqt om;have t0:(0≤(k:Int))=True:=eqt om;have r3:(k<x.col.length)=True:=eqt hk;have r4:(k+1≤x.col.length)=True:=eqt hk;have gl:=qal (cvN l l.length) x.col.length;have gg:=qfx (p:=cvN l l.length) hk;rw[qqU]at gg;have c181:=fun h=>qzT x k h ho hk
  have hno:(!cvB l k&& !cmB x k)=true→R=20:=fun hx=>by
   rw[hR,qv.2 ⟨k,hk,hx⟩];rfl
  have hS:(!cvB l k&& !cmB x k)=false→ ∀j,j<k+1→(!cvB l j&& !cmB x j)=false:=fun hx j hj=>by
   by_cases e:j=k
   ·subst e;exact hx
   ·exact k2' j om
  obtain⟨A,hA⟩: ∃A,A=cvB l k:=⟨_,rfl⟩
  obtain⟨B,hB⟩: ∃B,B=cmB x k:=⟨_,rfl⟩
  rw[←hA,←hB]at hno hS;rw[←hA]at gg;simp only[←hB]at c181;obtain⟨c,hcx⟩: ∃c,c=x.col.getD k []:=⟨_,rfl⟩
  have ec:=hcx.symm;simp only[ec]at c181;unfold coC at c181;have zc:qp x.col= .sl x.col.length fun i=> [qr (x.col.getD i [])]:=rfl
  cases A with
  |true=>
   simp (disch:=omega) only[coC,zc,t0,t1,r3,gl,gg,ec,Nat.mul_one,Nat.zero_add,itn,Option.isSome_some,Option.getD_some,go_sem]
   repeat' first
    |(refine qj ( .bool false) ?_;simp (disch:=omega) only[go_sem])
    |with_reducible apply aiA
   all_goals try exact clz
   refine hK _ _ (k+1) ⟨hk,hS rfl⟩ om (Wk.temps ?_)
   (simp only[go_sem,qf,qc,qa,qe];try (repeat' first|(with_reducible apply aiA)|(apply qg;omega)|(apply qd;rfl)|exact qi))
  |false=>
   cases B with
   |true=>
    simp (disch:=omega) only[coC,zc,t0,t1,r3,gl,gg,ec,Nat.mul_one,Nat.zero_add,itn,Option.isSome_some,Option.getD_some,go_sem]
    repeat' first
     |(refine cG (fun e=>c181 _) flk ?_;simp (disch:=omega) only[go_sem])
     |with_reducible apply aiA
    all_goals try exact clz
    refine hK _ _ (k+1) ⟨hk,hS rfl⟩ om (Wk.temps ?_)
    (simp only[go_sem,qf,qc,qa,qe];try (repeat' first|(with_reducible apply aiA)|(apply qg;omega)|(apply qd;rfl)|exact qi))
   |false=>
    rw[hno rfl];simp (disch:=omega) only[coC,zc,t0,t1,r3,gl,gg,ec,Nat.mul_one,Nat.zero_add,itn,Option.isSome_some,Option.getD_some,go_sem]
    repeat' first
     |(refine cG (fun e=>c181 _) flk ?_;simp (disch:=omega) only[go_sem])
     |(apply qb;exact rvk;simp only[go_sem];exact qi)
     |with_reducible apply aiA
    all_goals try exact clz
 have t1:((k:Int)<x.col.length)=False:=eqf om;have hV:R=0:=by
  rw[hR,qk.2 fun j hj=>k2' j om];rfl
 rw[hV];simp (disch:=omega) only[t1,zl,zo,coC,go_sem]
 repeat' first
  |(apply qb;exact rvk;simp only[go_sem];exact qi)
  |with_reducible apply aiA
 all_goals try exact clz
theorem qoT{x:Co}{l:List Un}{w b:Wd}{f:Bool}(h:w.text= []∨64<w.text.length):wdE x l w b f=11:=ipo h
theorem qmc{x:Co}{l:List Un}{w b:Wd}{f:Bool}(h1: ¬(w.text= []∨64<w.text.length))(h:w.col<0∨(x.col.length:Int)≤w.col∨(f=false∧w.col<b.col)):wdE x l w b f=19:=by
 unfold wdE;rw[ine h1,ipo h]
theorem qw7{x:Co}{l:List Un}{w b:Wd}{f:Bool}(h1: ¬(w.text= []∨64<w.text.length))(h2: ¬(w.col<0∨(x.col.length:Int)≤w.col∨(f=false∧w.col<b.col)))(h:fnU l w.col≠w.unit):wdE x l w b f=20:=by
 unfold wdE;rw[ine h1,ine h2,ipo h];split<;>rfl
theorem qh0{x:Co}{l:List Un}{w b:Wd}{f:Bool}(h1: ¬(w.text= []∨64<w.text.length))(h2: ¬(w.col<0∨(x.col.length:Int)≤w.col∨(f=false∧w.col<b.col)))(h3:fnU l w.col=w.unit)
  (h:w.dec< -1∨(0≤w.dec∧w.unit<0)∨(f=false∧0≤w.unit∧w.unit=b.unit∧w.dec≠b.dec)):wdE x l w b f=2:=by
 have:=qcY l w.col
 unfold wdE;rw[ine h1,ine h2,ine om,ine (fun hc=>hc h3),ipo];rcases h with h|h|h
 ·exact .inl h
 ·exact .inr (.inl ⟨h.2,om⟩)
 ·exact .inr (.inr h)
theorem qeo{x:Co}{l:List Un}{w b:Wd}{f:Bool}(h1: ¬(w.text= []∨64<w.text.length))(h2: ¬(w.col<0∨(x.col.length:Int)≤w.col∨(f=false∧w.col<b.col)))(h3:fnU l w.col=w.unit)
  (h: ¬(w.dec< -1∨(0≤w.dec∧w.unit<0)∨(f=false∧0≤w.unit∧w.unit=b.unit∧w.dec≠b.dec))):wdE x l w b f=0:=by
 have:=qcY l w.col
 unfold wdE;rw[ine h1,ine h2,ine om,ine (fun hc=>hc h3),ine];rintro (g|g|g)
 ·exact h (.inl g)
 ·exact h (.inr (.inl ⟨om,g.1⟩))
 ·exact h (.inr (.inr g))
theorem qn6(x:Co)(l:List Un)(b:List Wd)(h:List AObj)(hz:qcM x)(hu:qca l)(hb:b.length≤1000000000)(ht: ∀i,(b.getD i default).text.length≤1000000000)(hp:kh SG h):
  ACalls Tryz.prog 39 [.agg (coC x),qx l,qV b] h (.int .i64 (pvE x l b)) h:=by
 have c1:=fun l'=>qyU x l (h++l') hz hu (hp.app l')
 obtain⟨R,hR⟩: ∃R,R=pvE x l b:=⟨_,rfl⟩
 rw[←hR];unfold pvE at hR
 by_cases g:vaE x l=0
 case neg=>
  have k1:(vaE x l=0)=False:=eqf g;rw[ipo g]at hR;rw[hR];obtain⟨e,he⟩: ∃e,e=vaE x l:=⟨_,rfl⟩
  rw[←he]at c1 k1 ⊢;unfold coC at c1;refine acO qvE ?_;simp (disch:=omega) only[qxR,coC,go_sem]
  repeat' first
   |(refine cA (c1 _) flk ?_;simp (disch:=omega) only[k1,go_sem])
   |(apply qb;exact rvk;simp only[go_sem];exact qi)
 rw[ine (fun hc=>hc g)]at hR;rw[g]at c1;unfold coC at c1;have hv:coE x=0∧qlM x l=true∧cvA x l=true:=by
  unfold vaE at g;split at g
  ·cases g
  rename_i g1;split at g
  ·cases g
  rename_i g2;have g2:rgB x l=true:=by simpa using g2
  unfold rgB at g2;rw[Bool.and_eq_true]at g2;exact⟨Classical.not_not.1 g1,g2⟩
 have ho:=qdC hv.1;have hcl:=hz.cl;have zl: ∀g,valL g .len [qp x.col]= .int .i64 x.col.length:=fun _=>rfl
 have zo: ∀g,okL g .len [qp x.col]=True:=fun _=>eqt trivial
 have zw:qV b= .sl b.length fun i=>wdC (b.getD i default):=rfl
 refine acO qvE ?_;simp (disch:=omega) only[qxR,coC,zw,go_sem]
 repeat' first
  |(refine cA (c1 _) flk ?_;simp (disch:=omega) only[go_sem])
 obtain⟨wa,hwa⟩: ∃f:Nat→Int,f=qmb x l b:=⟨_,rfl⟩
 rw[←hwa]at hR;have hwd: ∀i,wa i=wdE x l (b.getD i default) (qfB b i) (decide (i=0)):=fun i=>by rw[hwa];rfl
 refine qn (T:=fun i:Nat×AObj=>qP 175 [(1,qx l),(2,qV b),(3,.op h.length 1 0),(8,.int .i64 i.1)])
  (H:=fun i=>h++ [.mem 1 26 (coC x),i.2])
  (inv:=fun i=>i.1≤b.length∧qO [i.2] 0=true∧ ∀j,j<i.1→wa j=0) (m:=fun i=>b.length-i.1) (0,.emp 0) ⟨nzl _,rfl,fun j hj=>absurd hj (nnz j)⟩ (Wk.temps ?_) ?_
 ·(simp only[zw,qx,go_sem,qf,qc,qa,qe];try (repeat' first|(with_reducible apply aiA)|(apply qg;omega)|(apply qd;rfl)|exact qi))
 rintro⟨i,O⟩ ⟨i1,i2,i3⟩ K hK;simp only at i1 i2 i3 hK;have i2': ∀m,qO (O::m) 0=true:=fun _=>i2
 by_cases hi:i<b.length
 ·have t1:((i:Int)<b.length)=True:=eqt om;have t0:(0≤(i:Int))=True:=eqt om;have hE:=jy (f:=wa) hi i3;have hS:wa i=0→ ∀j,j<i+1→wa j=0:=fun hx j hj=>by
   by_cases e:j=i
   ·subst e;exact hx
   ·exact i3 j om
  have hbad: ∀e:Int,e≠0→wa i=e→R=e:=fun e he hx=>by
   rw[hR,ipo (by rw[hE (by rw[hx];exact he),hx];exact he),hE (by rw[hx];exact he),hx]
  have hw:=hwd i;obtain⟨w,hwx⟩: ∃w,w=b.getD i default:=⟨_,rfl⟩
  have ew:=hwx.symm;rw[ew]at hw;have c3:=fun h=>qzt l w.col h hu.n
  have eF:0≤w.col→fnR l w.col=fnU l w.col:=fun hc=>ine om
  have eE:0≤w.col→fnE w.col=0:=fun hc=>ine om
  have hrg:=qcY l w.col;obtain⟨p,hpx⟩: ∃p,p=fnU l w.col:=⟨_,rfl⟩
  have ep:=hpx.symm
  by_cases b0:i=0
  case pos=>
   have t2:((0:Int)<i)=False:=eqf om;rw[dqt b0]at hw
   by_cases a1:w.text= []
   ·have p1:(w.text= [])=True:=eqt a1;rw[hbad 11 (by decide) (by rw[hw];exact qoT (.inl a1))];simp (disch:=omega) only[coC,zw,wdC,t0,t1,ew,i2',zl,zo,t2,p1,go_sem]
    repeat' first
     |(apply qb;exact rvk;simp only[go_sem];exact qi)
   have p1:(w.text= [])=False:=eqf a1
   by_cases a2:64<w.text.length
   ·have p2:((64:Int)<w.text.length)=True:=eqt om;rw[hbad 11 (by decide) (by rw[hw];exact qoT (.inr a2))];simp (disch:=omega) only[coC,zw,wdC,t0,t1,ew,i2',zl,zo,t2,p1,p2,go_sem]
    repeat' first
     |(apply qb;exact rvk;simp only[go_sem];exact qi)
   have p2:((64:Int)<w.text.length)=False:=eqf om;have n1: ¬(w.text= []∨64<w.text.length):=fun hc=>hc.elim a1 a2
   by_cases a3:w.col<0
   ·have p3:(w.col<0)=True:=eqt a3;rw[hbad 19 (by decide) (by rw[hw];exact qmc n1 (.inl a3))];simp (disch:=omega) only[coC,zw,wdC,t0,t1,ew,i2',zl,zo,t2,p1,p2,p3,go_sem]
    repeat' first
     |(apply qb;exact rvk;simp only[go_sem];exact qi)
   have p3:(w.col<0)=False:=eqf a3
   by_cases a4:(x.col.length:Int)≤w.col
   ·have p4:((x.col.length:Int)≤w.col)=True:=eqt a4;rw[hbad 19 (by decide) (by rw[hw];exact qmc n1 (.inr (.inl a4)))];simp (disch:=omega) only[coC,zw,wdC,t0,t1,ew,i2',zl,zo,t2,p1,p2,p3,p4,go_sem]
    repeat' first
     |(apply qb;exact rvk;simp only[go_sem];exact qi)
     |with_reducible apply aiA
    all_goals try exact clz
   have p4:((x.col.length:Int)≤w.col)=False:=eqf a4;have n2: ¬(w.col<0∨(x.col.length:Int)≤w.col∨(true=false∧w.col<(qfB b i).col)):=by simp only[Bool.true_eq_false,false_and,or_false];omega
   have eF:=eF om;have eE:=eE om;rw[ep]at eF;simp only[eF,eE]at c3
   by_cases a6:w.unit=p
   case neg=>
    have p6:(w.unit=p)=False:=eqf a6;rw[hbad 20 (by decide) (by rw[hw];exact qw7 n1 n2 (by rw[ep];omega))];simp (disch:=omega) only[coC,zw,wdC,t0,t1,ew,i2',zl,zo,t2,p1,p2,p3,p4,go_sem]
    repeat' first
     |(refine cA (c3 _) flk ?_;simp (disch:=omega) only[t2,p6,go_sem])
     |(apply qb;exact rvk;simp only[go_sem];first|exact qi|apply qg)
     |with_reducible first|intro _|apply aiA
    all_goals try exact clz
   have p6:(w.unit=p)=True:=eqt a6;have n3:fnU l w.col=w.unit:=by rw[ep];exact a6.symm
   by_cases a7:w.dec< -1
   ·have p7:(w.dec< -1)=True:=eqt a7;rw[hbad 2 (by decide) (by rw[hw];exact qh0 n1 n2 n3 (.inl a7))];simp (disch:=omega) only[coC,zw,wdC,t0,t1,ew,i2',zl,zo,t2,p1,p2,p3,p4,go_sem]
    repeat' first
     |(refine cA (c3 _) flk ?_;simp (disch:=omega) only[t2,p6,p7,go_sem])
     |(apply qb;exact rvk;simp only[go_sem];first|exact qi|apply qg)
     |with_reducible first|intro _|apply aiA
    all_goals try exact clz
   have p7:(w.dec< -1)=False:=eqf a7
   by_cases a8:0≤w.dec
   ·have p8:(0≤w.dec)=True:=eqt a8;have p8':(w.dec<0)=False:=eqf om
    by_cases a9:w.unit<0
    ·have p9:(w.unit<0)=True:=eqt a9;rw[hbad 2 (by decide) (by rw[hw];exact qh0 n1 n2 n3 (.inr (.inl ⟨a8,a9⟩)))];simp (disch:=omega) only[coC,zw,wdC,t0,t1,ew,i2',zl,zo,t2,p1,p2,p3,p4,go_sem]
     repeat' first
      |(refine cA (c3 _) flk ?_;simp (disch:=omega) only[t2,p6,p7,p8,p9,go_sem])
      |(apply qb;exact rvk;simp only[go_sem];first|exact qi|apply qg)
      |with_reducible first|intro _|apply aiA
     all_goals try exact clz
    have p9:(w.unit<0)=False:=eqf a9;have p9':(0≤w.unit)=True:=eqt om;have hok:wa i=0:=by rw[hw];exact qeo n1 n2 n3 (by simp only[Bool.true_eq_false,false_and,or_false];omega)
    simp (disch:=omega) only[coC,zw,wdC,t0,t1,ew,i2',zl,zo,t2,p1,p2,p3,p4,go_sem]
    repeat' first
     |(refine cA (c3 _) flk ?_;simp (disch:=omega) only[t2,p6,p7,p8,p9,p9',go_sem])
     |(apply qb;exact rvk;simp only[go_sem];apply qg)
     |with_reducible first|intro _|apply aiA
    all_goals try exact clz
    refine hK _ _ (i+1,.mem (qq (some O)+1) 64 (wdC w)) ⟨hi,rfl,hS hok⟩ (by simp only;omega) ?_;simp only[wdC];refine Wk.temps ?_
    (simp only[zw,qx,go_sem,qf,qc,qa,qe];try (repeat' first|(with_reducible apply aiA)|(apply qg;omega)|(apply qd;rfl)|exact qi))
   have p8:(0≤w.dec)=False:=eqf a8;have p8':(w.dec<0)=True:=eqt om
   by_cases a9:w.unit<0
   ·have p9:(w.unit<0)=True:=eqt a9;have p9':(0≤w.unit)=False:=eqf om;have hok:wa i=0:=by rw[hw];exact qeo n1 n2 n3 (by simp only[Bool.true_eq_false,false_and,or_false];omega)
    simp (disch:=omega) only[coC,zw,wdC,t0,t1,ew,i2',zl,zo,t2,p1,p2,p3,p4,go_sem]
    repeat' first
     |(refine cA (c3 _) flk ?_;simp (disch:=omega) only[t2,p6,p7,p8,p9,p9',go_sem])
     |(apply qb;exact rvk;simp only[go_sem];apply qg)
     |with_reducible first|intro _|apply aiA
    all_goals try exact clz
    refine hK _ _ (i+1,.mem (qq (some O)+1) 64 (wdC w)) ⟨hi,rfl,hS hok⟩ (by simp only;omega) ?_;simp only[wdC];refine Wk.temps ?_
    (simp only[zw,qx,go_sem,qf,qc,qa,qe];try (repeat' first|(with_reducible apply aiA)|(apply qg;omega)|(apply qd;rfl)|exact qi))
   have p9:(w.unit<0)=False:=eqf a9;have p9':(0≤w.unit)=True:=eqt om;have hok:wa i=0:=by rw[hw];exact qeo n1 n2 n3 (by simp only[Bool.true_eq_false,false_and,or_false];omega)
   simp (disch:=omega) only[coC,zw,wdC,t0,t1,ew,i2',zl,zo,t2,p1,p2,p3,p4,go_sem]
   repeat' first
    |(refine cA (c3 _) flk ?_;simp (disch:=omega) only[t2,p6,p7,p8,p9,p9',go_sem])
    |(apply qb;exact rvk;simp only[go_sem];apply qg)
    |with_reducible first|intro _|apply aiA
   all_goals try exact clz
   refine hK _ _ (i+1,.mem (qq (some O)+1) 64 (wdC w)) ⟨hi,rfl,hS hok⟩ (by simp only;omega) ?_;simp only[wdC];refine Wk.temps ?_
   (simp only[zw,qx,go_sem,qf,qc,qa,qe];try (repeat' first|(with_reducible apply aiA)|(apply qg;omega)|(apply qd;rfl)|exact qi))
  have t2:((0:Int)<i)=True:=eqt om;have hm:((i:Int)-1)=((i-1:Nat):Int):=by omega
  have m1:(((i-1:Nat):Int)<b.length)=True:=eqt om;have m0:(0≤((i-1:Nat):Int))=True:=eqt om;have hb1:qfB b i=b.getD (i-1) default:=ine b0;rw[hb1,dqf b0]at hw;obtain⟨w0,hw0⟩: ∃w0,w0=b.getD (i-1) default:=⟨_,rfl⟩
  have ew0:=hw0.symm;rw[ew0]at hw
  by_cases a1:w.text= []
  ·have p1:(w.text= [])=True:=eqt a1;rw[hbad 11 (by decide) (by rw[hw];exact qoT (.inl a1))];simp (disch:=omega) only[coC,zw,wdC,t0,t1,ew,i2',zl,zo,t2,hm,m0,m1,ew0,p1,go_sem]
   repeat' first
    |(apply qb;exact rvk;simp only[go_sem];exact qi)
  have p1:(w.text= [])=False:=eqf a1
  by_cases a2:64<w.text.length
  ·have p2:((64:Int)<w.text.length)=True:=eqt om;rw[hbad 11 (by decide) (by rw[hw];exact qoT (.inr a2))];simp (disch:=omega) only[coC,zw,wdC,t0,t1,ew,i2',zl,zo,t2,hm,m0,m1,ew0,p1,p2,go_sem]
   repeat' first
    |(apply qb;exact rvk;simp only[go_sem];exact qi)
  have p2:((64:Int)<w.text.length)=False:=eqf om;have n1: ¬(w.text= []∨64<w.text.length):=fun hc=>hc.elim a1 a2
  by_cases a3:w.col<0
  ·have p3:(w.col<0)=True:=eqt a3;rw[hbad 19 (by decide) (by rw[hw];exact qmc n1 (.inl a3))];simp (disch:=omega) only[coC,zw,wdC,t0,t1,ew,i2',zl,zo,t2,hm,m0,m1,ew0,p1,p2,p3,go_sem]
   repeat' first
    |(apply qb;exact rvk;simp only[go_sem];exact qi)
  have p3:(w.col<0)=False:=eqf a3
  by_cases a4:(x.col.length:Int)≤w.col
  ·have p4:((x.col.length:Int)≤w.col)=True:=eqt a4;rw[hbad 19 (by decide) (by rw[hw];exact qmc n1 (.inr (.inl a4)))];simp (disch:=omega) only[coC,zw,wdC,t0,t1,ew,i2',zl,zo,t2,hm,m0,m1,ew0,p1,p2,p3,p4,go_sem]
   repeat' first
    |(apply qb;exact rvk;simp only[go_sem];exact qi)
    |with_reducible apply aiA
   all_goals try exact clz
  have p4:((x.col.length:Int)≤w.col)=False:=eqf a4
  by_cases a5:w.col<w0.col
  ·have p5:(w.col<w0.col)=True:=eqt a5;rw[hbad 19 (by decide) (by rw[hw];exact qmc n1 (.inr (.inr ⟨rfl,a5⟩)))];simp (disch:=omega) only[coC,zw,wdC,t0,t1,ew,i2',zl,zo,t2,hm,m0,m1,ew0,p1,p2,p3,p4,p5,go_sem]
   repeat' first
    |(apply qb;exact rvk;simp only[go_sem];exact qi)
    |with_reducible apply aiA
   all_goals try exact clz
  have p5:(w.col<w0.col)=False:=eqf a5;have n2: ¬(w.col<0∨(x.col.length:Int)≤w.col∨(false=false∧w.col<w0.col)):=by omega
  have eF:=eF om;have eE:=eE om;rw[ep]at eF;simp only[eF,eE]at c3
  by_cases a6:w.unit=p
  case neg=>
   have p6:(w.unit=p)=False:=eqf a6;rw[hbad 20 (by decide) (by rw[hw];exact qw7 n1 n2 (by rw[ep];omega))];simp (disch:=omega) only[coC,zw,wdC,t0,t1,ew,i2',zl,zo,t2,hm,m0,m1,ew0,p1,p2,p3,p4,p5,go_sem]
   repeat' first
    |(refine cA (c3 _) flk ?_;simp (disch:=omega) only[t2,hm,m0,m1,ew0,p6,go_sem])
    |(apply qb;exact rvk;simp only[go_sem];exact qi)
    |with_reducible apply aiA
   all_goals try exact clz
  have p6:(w.unit=p)=True:=eqt a6;have n3:fnU l w.col=w.unit:=by rw[ep];exact a6.symm
  by_cases a7:w.dec< -1
  ·have p7:(w.dec< -1)=True:=eqt a7;rw[hbad 2 (by decide) (by rw[hw];exact qh0 n1 n2 n3 (.inl a7))];simp (disch:=omega) only[coC,zw,wdC,t0,t1,ew,i2',zl,zo,t2,hm,m0,m1,ew0,p1,p2,p3,p4,p5,go_sem]
   repeat' first
    |(refine cA (c3 _) flk ?_;simp (disch:=omega) only[t2,hm,m0,m1,ew0,p6,p7,go_sem])
    |(apply qb;exact rvk;simp only[go_sem];exact qi)
    |with_reducible apply aiA
   all_goals try exact clz
  have p7:(w.dec< -1)=False:=eqf a7
  by_cases a8:0≤w.dec
  ·have p8:(0≤w.dec)=True:=eqt a8;have p8':(w.dec<0)=False:=eqf om
   by_cases a9:w.unit<0
   ·have p9:(w.unit<0)=True:=eqt a9;rw[hbad 2 (by decide) (by rw[hw];exact qh0 n1 n2 n3 (.inr (.inl ⟨a8,a9⟩)))];simp (disch:=omega) only[coC,zw,wdC,t0,t1,ew,i2',zl,zo,t2,hm,m0,m1,ew0,p1,p2,p3,p4,p5,go_sem]
    repeat' first
     |(refine cA (c3 _) flk ?_;simp (disch:=omega) only[t2,hm,m0,m1,ew0,p6,p7,p8,p9,go_sem])
     |(apply qb;exact rvk;simp only[go_sem];exact qi)
     |with_reducible apply aiA
    all_goals try exact clz
   have p9:(w.unit<0)=False:=eqf a9;have p9':(0≤w.unit)=True:=eqt om
   by_cases a10:w0.unit=w.unit
   case neg=>
    have p10:(w0.unit=w.unit)=False:=eqf a10;have p10':(w0.unit=p)=False:=eqf om;have hok:wa i=0:=by rw[hw];exact qeo n1 n2 n3 om
    simp (disch:=omega) only[coC,zw,wdC,t0,t1,ew,i2',zl,zo,t2,hm,m0,m1,ew0,p1,p2,p3,p4,p5,go_sem]
    repeat' first
     |(refine cA (c3 _) flk ?_;simp (disch:=omega) only[t2,hm,m0,m1,ew0,p6,p7,p8,p9,p9',p10,go_sem])
     |(apply qb;exact rvk;simp only[go_sem];apply qg)
     |with_reducible first|intro _|apply aiA
    all_goals try exact clz
    refine hK _ _ (i+1,.mem (qq (some O)+1) 64 (wdC w)) ⟨hi,rfl,hS hok⟩ (by simp only;omega) ?_;simp only[wdC];refine Wk.temps ?_
    (simp only[zw,qx,go_sem,qf,qc,qa,qe];try (repeat' first|(with_reducible apply aiA)|(apply qg;omega)|(apply qd;rfl)|exact qi))
   have p10:(w0.unit=w.unit)=True:=eqt a10;have p10':(w0.unit=p)=True:=eqt om
   by_cases a11:w0.dec=w.dec
   ·have p11:(w0.dec=w.dec)=True:=eqt a11;have hok:wa i=0:=by rw[hw];exact qeo n1 n2 n3 om
    simp (disch:=omega) only[coC,zw,wdC,t0,t1,ew,i2',zl,zo,t2,hm,m0,m1,ew0,p1,p2,p3,p4,p5,go_sem]
    repeat' first
     |(refine cA (c3 _) flk ?_;simp (disch:=omega) only[t2,hm,m0,m1,ew0,p6,p7,p8,p9,p9',p10,p11,go_sem])
     |with_reducible apply aiA
    all_goals try exact clz
    refine hK _ _ (i+1,.mem (qq (some O)+1) 64 (wdC w)) ⟨hi,rfl,hS hok⟩ (by simp only;omega) ?_;simp only[wdC];refine Wk.temps ?_
    (simp only[zw,qx,go_sem,qf,qc,qa,qe];try (repeat' first|(with_reducible apply aiA)|(apply qg;omega)|(apply qd;rfl)|exact qi))
   have p11:(w0.dec=w.dec)=False:=eqf a11;rw[hbad 2 (by decide) (by rw[hw];exact qh0 n1 n2 n3 (.inr (.inr ⟨rfl,om,om,om⟩)))];simp (disch:=omega) only[coC,zw,wdC,t0,t1,ew,i2',zl,zo,t2,hm,m0,m1,ew0,p1,p2,p3,p4,p5,go_sem]
   repeat' first
    |(refine cA (c3 _) flk ?_;simp (disch:=omega) only[t2,hm,m0,m1,ew0,p6,p7,p8,p9,p9',p10,p11,go_sem])
    |(apply qb;exact rvk;simp only[go_sem];exact qi)
    |with_reducible apply aiA
   all_goals try exact clz
  have p8:(0≤w.dec)=False:=eqf a8;have p8':(w.dec<0)=True:=eqt om
  by_cases a9:w.unit<0
  ·have p9:(w.unit<0)=True:=eqt a9;have p9':(0≤w.unit)=False:=eqf om;have hok:wa i=0:=by rw[hw];exact qeo n1 n2 n3 om
   simp (disch:=omega) only[coC,zw,wdC,t0,t1,ew,i2',zl,zo,t2,hm,m0,m1,ew0,p1,p2,p3,p4,p5,go_sem]
   repeat' first
    |(refine cA (c3 _) flk ?_;simp (disch:=omega) only[t2,hm,m0,m1,ew0,p6,p7,p8,p9,p9',go_sem])
    |(apply qb;exact rvk;simp only[go_sem];apply qg)
    |with_reducible first|intro _|apply aiA
   all_goals try exact clz
   refine hK _ _ (i+1,.mem (qq (some O)+1) 64 (wdC w)) ⟨hi,rfl,hS hok⟩ (by simp only;omega) ?_;simp only[wdC];refine Wk.temps ?_
   (simp only[zw,qx,go_sem,qf,qc,qa,qe];try (repeat' first|(with_reducible apply aiA)|(apply qg;omega)|(apply qd;rfl)|exact qi))
  have p9:(w.unit<0)=False:=eqf a9;have p9':(0≤w.unit)=True:=eqt om
  by_cases a10:w0.unit=w.unit
  case neg=>
   have p10:(w0.unit=w.unit)=False:=eqf a10;have p10':(w0.unit=p)=False:=eqf om;have hok:wa i=0:=by rw[hw];exact qeo n1 n2 n3 om
   simp (disch:=omega) only[coC,zw,wdC,t0,t1,ew,i2',zl,zo,t2,hm,m0,m1,ew0,p1,p2,p3,p4,p5,go_sem]
   repeat' first
    |(refine cA (c3 _) flk ?_;simp (disch:=omega) only[t2,hm,m0,m1,ew0,p6,p7,p8,p9,p9',p10,go_sem])
    |(apply qb;exact rvk;simp only[go_sem];apply qg)
    |with_reducible first|intro _|apply aiA
   all_goals try exact clz
   refine hK _ _ (i+1,.mem (qq (some O)+1) 64 (wdC w)) ⟨hi,rfl,hS hok⟩ (by simp only;omega) ?_;simp only[wdC];refine Wk.temps ?_
   (simp only[zw,qx,go_sem,qf,qc,qa,qe];try (repeat' first|(with_reducible apply aiA)|(apply qg;omega)|(apply qd;rfl)|exact qi))
  have p10:(w0.unit=w.unit)=True:=eqt a10;have p10':(w0.unit=p)=True:=eqt om
  by_cases a11:w0.dec=w.dec
  ·have p11:(w0.dec=w.dec)=True:=eqt a11;have hok:wa i=0:=by rw[hw];exact qeo n1 n2 n3 om
   simp (disch:=omega) only[coC,zw,wdC,t0,t1,ew,i2',zl,zo,t2,hm,m0,m1,ew0,p1,p2,p3,p4,p5,go_sem]
   repeat' first
    |(refine cA (c3 _) flk ?_;simp (disch:=omega) only[t2,hm,m0,m1,ew0,p6,p7,p8,p9,p9',p10,p11,go_sem])
    |with_reducible apply aiA
   all_goals try exact clz
   refine hK _ _ (i+1,.mem (qq (some O)+1) 64 (wdC w)) ⟨hi,rfl,hS hok⟩ (by simp only;omega) ?_;simp only[wdC];refine Wk.temps ?_
   (simp only[zw,qx,go_sem,qf,qc,qa,qe];try (repeat' first|(with_reducible apply aiA)|(apply qg;omega)|(apply qd;rfl)|exact qi))
  have p11:(w0.dec=w.dec)=False:=eqf a11;rw[hbad 2 (by decide) (by rw[hw];exact qh0 n1 n2 n3 (.inr (.inr ⟨rfl,om,om,om⟩)))];simp (disch:=omega) only[coC,zw,wdC,t0,t1,ew,i2',zl,zo,t2,hm,m0,m1,ew0,p1,p2,p3,p4,p5,go_sem]
  repeat' first
   |(refine cA (c3 _) flk ?_;simp (disch:=omega) only[t2,hm,m0,m1,ew0,p6,p7,p8,p9,p9',p10,p11,go_sem])
   |(apply qb;exact rvk;simp only[go_sem];exact qi)
   |with_reducible apply aiA
  all_goals try exact clz
 have t1:((i:Int)<b.length)=False:=eqf om;obtain rfl:i=b.length:=by omega
 have hn0:=zI (f:=wa) (fun j (hj:j<b.length)=>i3 j hj);rw[ine (fun hc=>hc hn0)]at hR;clear hK;simp (disch:=omega) only[coC,zw,t1,i2',go_sem];obtain⟨cb,hcb⟩: ∃f:Nat→Int,f=qxC x l b:=⟨_,rfl⟩
 rw[←hcb]at hR;have hto:0<x.tok.length:=by have:=ho.tn;have:=ho.sg;omega
 refine qn (T:=fun k:Nat=>qP 175 [(1,qx l),(2,qV b),(3,.op h.length 1 0),(12,.int .i64 k)])
  (H:=fun _=>h++ [.mem 1 26 (coC x),O])
  (inv:=fun k=>k≤x.col.length∧ ∀j,j<k→cb j=0) (m:=fun k=>x.col.length-k) 0 ⟨nzl _,fun j hj=>absurd hj (nnz j)⟩ (Wk.temps ?_) ?_
 ·(simp only[zw,qx,go_sem,qf,qc,qa,qe];try (repeat' first|(with_reducible apply aiA)|(apply qg;omega)|(apply qd;rfl)|exact qi))
 rintro k ⟨k1,k2⟩ K hK
 by_cases hk:k<x.col.length
 ·have t1:((k:Int)<x.col.length)=True:=eqt om;have t0:(0≤(k:Int))=True:=eqt om;have hE:=jy (f:=cb) hk k2;have hS:cb k=0→ ∀j,j<k+1→cb j=0:=fun hx j hj=>by
   by_cases e:j=k
   ·subst e;exact hx
   ·exact k2 j om
  have hci:cb k=if 0≤fnU l (k:Int) then 0 else if ccB x b k=true then 0 else 9:=by rw[hcb];rfl
  have hcc:=qup x b k;have hto2:= @qkB x l ho hv.2.2 k hk;have eF:fnR l (k:Int)=fnU l (k:Int):=ine om;have eE:fnE (k:Int)=0:=ine om;have c3:=fun h=>qzt l (k:Int) h hu.n
  simp only[eF,eE]at c3;have htx:txA x k=((x.tok.getD 0 []).getD ((x.col.getD k []).getD 0 0).toNat default).text:=rfl;have hcl0:=ho.cl k hk;obtain⟨c,hcx⟩: ∃c,c=x.col.getD k []:=⟨_,rfl⟩
  have ec:=hcx.symm;rw[ec]at hto2 htx hcl0;obtain⟨t,htt⟩: ∃t,t=c.getD 0 0:=⟨_,rfl⟩
  have et:=htt.symm;rw[et]at hto2 htx;obtain⟨tk,htk⟩: ∃tk,tk=x.tok.getD 0 []:=⟨_,rfl⟩
  have etk:=htk.symm;rw[etk]at hto2 htx;obtain⟨p,hpx⟩: ∃p,p=fnU l (k:Int):=⟨_,rfl⟩
  rw[←hpx]at hci hto2;simp only[←hpx]at c3
  by_cases g1:0≤p
  ·have q4:(0≤p)=True:=eqt g1;rw[ipo g1]at hci;simp (disch:=omega) only[coC,t1,zl,zo,go_sem]
   repeat' first
    |(refine cA (c3 _) flk ?_;simp (disch:=omega) only[q4,go_sem])
    |with_reducible apply aiA
   all_goals try exact clz
   refine hK _ _ (k+1) ⟨hk,hS hci⟩ om (Wk.temps ?_)
   (simp only[zw,qx,go_sem,qf,qc,qa,qe];try (repeat' first|(with_reducible apply aiA)|(apply qg;omega)|(apply qd;rfl)|exact qi))
  have q4:(0≤p)=False:=eqf g1;rw[ine g1]at hci;obtain⟨o1,o2⟩:=hto2 om;have q5:(0≤t)=True:=eqt o1;have q6:(t<tk.length)=True:=eqt o2;have q7:((0:Int)<c.length)=True:=eqt (by have:=ho.sg;omega);have q8:((0:Int)<x.tok.length)=True:=eqt om;have z0:Int.toNat 0=0:=rfl;obtain⟨tt,htt2⟩: ∃tt,tt=tk.getD t.toNat default:=⟨_,rfl⟩
  have ett:=htt2.symm;rw[ett]at htx;rw[htx]at hcc;simp (disch:=omega) only[coC,t1,zl,zo,go_sem]
  repeat' first
   |(refine cA (c3 _) flk ?_;simp (disch:=omega) only[q4,go_sem])
   |with_reducible apply aiA
  all_goals try exact clz
  refine qn (T:=fun i:Nat=>qP 175 [(1,qx l),(2,qV b),(3,.op h.length 1 0),(12,.int .i64 k),(15,.int .i64 (cW b (k:Int) i:Int)),(16,.int .i64 i)])
   (H:=fun _=>h++ [.mem 1 26 (coC x),O])
   (inv:=fun i=>i≤b.length∧ ∀j,j<i→(decide ((b.getD j default).col=(k:Int))&& !decide ((b.getD j default).text=tt.text))=false) (m:=fun i=>b.length-i) 0 ⟨nzl _,fun j hj=>absurd hj (nnz j)⟩ (Wk.temps ?_) ?_
  ·(simp only[zw,qx,cW,go_sem,qf,qc,qa,qe];try (repeat' first|(with_reducible apply aiA)|(apply qg;omega)|(apply qd;rfl)|exact qi))
  rintro i ⟨m1,m2⟩ K2 hK2
  by_cases hi:i<b.length
  ·have r1:((i:Int)<b.length)=True:=eqt om;have r0:(0≤(i:Int))=True:=eqt om;have hle:=qui b (k:Int) i;have hcs:cW b (k:Int) (i+1)=cW b (k:Int) i+if (b.getD i default).col=(k:Int) then 1 else 0:=rfl
   have hS2:(decide ((b.getD i default).col=(k:Int))&& !decide ((b.getD i default).text=tt.text))=false→ ∀j,j<i+1→(decide ((b.getD j default).col=(k:Int))&& !decide ((b.getD j default).text=tt.text))=false:=fun hx j hj=>by
    by_cases e:j=i
    ·subst e;exact hx
    ·exact m2 j om
   have hno:(decide ((b.getD i default).col=(k:Int))&& !decide ((b.getD i default).text=tt.text))=true→R=9:=fun hx=>by
    have h9:cb k=9:=by
     rw[hci,ine];rw[hcc,qv.2 ⟨i,hi,hx⟩];simp
    rw[hR,hE (by rw[h9];decide),h9]
   obtain⟨w,hwx⟩: ∃w,w=b.getD i default:=⟨_,rfl⟩
   have ew:=hwx.symm;rw[ew]at hcs hS2 hno;obtain⟨N,hN⟩: ∃N,N=cW b (k:Int) i:=⟨_,rfl⟩
   rw[←hN]at hle hcs ⊢
   by_cases a1:w.col=(k:Int)
   case neg=>
    have p1:(w.col=(k:Int))=False:=eqf a1;rw[ine a1]at hcs;simp (disch:=omega) only[coC,zw,wdC,r0,r1,ew,p1,go_sem];refine hK2 _ _ (i+1) ⟨hi,hS2 (by rw[dqf a1];rfl)⟩ om (Wk.temps ?_);rw[hcs]
    (simp only[zw,qx,go_sem,qf,qc,qa,qe];try (repeat' first|(with_reducible apply aiA)|(apply qg;omega)|(apply qd;rfl)|exact qi))
   have p1:(w.col=(k:Int))=True:=eqt a1;rw[ipo a1]at hcs
   by_cases a2:w.text=tt.text
   ·have p2:(w.text=tt.text)=True:=eqt a2;simp (disch:=omega) only[coC,qp,qr,ql,zQ,tkC,zw,wdC,r0,r1,t0,t1,ew,p1,p2,ec,et,etk,ett,q5,q6,q7,q8,z0,go_sem]
    repeat' first
     |with_reducible apply aiA
    all_goals try exact clz
    refine hK2 _ _ (i+1) ⟨hi,hS2 (by rw[dqt a2];simp)⟩ om (Wk.temps ?_);rw[hcs]
    (simp only[zw,qx,go_sem,qf,qc,qa,qe];try (repeat' first|(with_reducible apply aiA)|(apply qg;omega)|(apply qd;rfl)|exact qi))
   ·have p2:(w.text=tt.text)=False:=eqf a2;rw[hno (by rw[dqt a1,dqf a2];rfl)];simp (disch:=omega) only[coC,qp,qr,ql,zQ,tkC,zw,wdC,r0,r1,t0,t1,ew,p1,p2,ec,et,etk,ett,q5,q6,q7,q8,z0,go_sem]
    repeat' first
     |(apply qb;exact rvk;simp only[go_sem];exact qi)
     |with_reducible apply aiA
    all_goals try exact clz
  have r1:((i:Int)<b.length)=False:=eqf om;obtain rfl:i=b.length:=by omega
  rw[qk.2 fun j hj=>m2 j om,Bool.not_false,Bool.and_true]at hcc;obtain⟨N,hN⟩: ∃N,N=cW b (k:Int) b.length:=⟨_,rfl⟩
  rw[←hN]at hcc ⊢
  by_cases a1:N=1
  ·have p1:((N:Int)=1)=True:=eqt om;rw[dqt a1]at hcc;rw[ipo hcc]at hci;simp (disch:=omega) only[zw,r1,p1,go_sem];refine hK _ _ (k+1) ⟨hk,hS hci⟩ om (Wk.temps ?_)
   (simp only[zw,qx,go_sem,qf,qc,qa,qe];try (repeat' first|(with_reducible apply aiA)|(apply qg;omega)|(apply qd;rfl)|exact qi))
  ·have p1:((N:Int)=1)=False:=eqf om;rw[dqf a1]at hcc;rw[ine (by rw[hcc];simp)]at hci;have hV:R=9:=by rw[hR,hE (by rw[hci];decide),hci]
   rw[hV];simp (disch:=omega) only[zw,r1,p1,go_sem]
   repeat' first
    |(apply qb;exact rvk;simp only[go_sem];exact qi)
 have t1:((k:Int)<x.col.length)=False:=eqf om;rw[zI (fun j (hj:j<x.col.length)=>k2 j om)]at hR;rw[hR];simp (disch:=omega) only[coC,t1,zl,zo,go_sem]
 repeat' first
  |(apply qb;exact rvk;simp only[go_sem];exact qi)
  |with_reducible apply aiA
 all_goals try exact clz
end RC
end
section
open Go Go.Proofs AF
def qrx:List Nat:= []
def qqh:C:=
 ((C.ops [ON 2 (.nilo 0 1 3) []]).seq (((C.ops [MV 3 0,O1 4 (.isnil .slice false) 3]).seq (C.cond (.t 4) ((C.ops [ON 2 (.nilo 0 1 3) []]).seq C.ret) C.skip)).seq ((C.ops [⟨some 5,
 none,.bslc 1 1 0 3 [i6 0] [],[]⟩,MV 6 0,O2 7 (.app 2 1 3 8) 5 6,MV 2 7]).seq
 C.ret)))
theorem qpg:qH Tryz.prog 156 8 3 [RV.tmp 2] qqh:=fi Tryz.f156 [2,5,7] qrx []
end
section
open Go Go.Proofs AF HY LN
namespace RC
def hsK(l:List Un)(b:List Wd)(k:Nat):List Int:=if 0≤brK l b k then ((l.getD k default).rds.getD (brK l b k).toNat default).src else []
def qew(n:Nat):List Int:=(List.range n).map (fun i:Nat=>(i:Int))
def soK(x:Co)(l:List Un)(b:List Wd)(i:Nat):List Int:=if (b.getD i default).unit<0 then qew x.sig.length else hsK l b (b.getD i default).unit.toNat
theorem qds(n:Nat):qew (n+1)=qew n++ [(n:Int)]:=by unfold qew;rw[List.range_succ,List.map_append];rfl
theorem qav(n:Nat):(qew n).length=n:=by simp[qew]
theorem qcS(l:List Un)(b:List Wd)(k:Nat):brK l b k<(l.getD k default).rds.length:=by
 unfold brK;rcases zm (fun r=>decide (((l.getD k default).rds.getD r default).words=owG b (k:Int) b.length)) (l.getD k default).rds.length with⟨i,h1,_,_,h4⟩|⟨_,h2⟩
 ·rw[h4];omega
 ·rw[h2];omega
theorem qrr{l:List Un}{b:List Wd}{k:Nat}(hu:qca l):(hsK l b k).length≤1000000000:=by
 unfold hsK;split
 ·exact hu.sr _ _
 ·exact nzl _
theorem qdg(h:List AObj)(L:List Int):qo h (qr L)=some (L.length,qF L):=by
 show some (L.length,_)=_;rw[fmI]
theorem qg1{L:List Int}(h:L≠ []):valP (.isnil .slice false) [qr L]= .bool false:=by
 unfold qr;rw[qaR,ine (by simpa using h)];rfl
theorem qx1(h:List AObj):ACalls Tryz.prog 156 [qr []] h (qr []) h:=by
 have s1:=fun h=>qdg h []
 have z0:valP (.isnil .slice false) [qr []]= .anyb:=rfl;have z1:okP (.isnil .slice false) [qr []]=True:=eqt trivial;have e0:qF []= []:=rfl;refine acO qpg ?_;simp (disch:=omega) only[qqh,s1,z0,z1,e0,go_sem]
 repeat' first
  |(apply qb;exact rvk;simp only[go_sem])
  |with_reducible apply aiA
 all_goals try exact clz
 ·exact qbI
 ·rfl
 ·exact VLe.sl_eq rfl (fun i hi=>absurd hi (by simp))
theorem qzS(L:List Int)(h:List AObj)(k:Nat)(hk:qO h k=true)(h0:L≠ [])(hl:L.length≤1000000000):
  ACalls Tryz.prog 156 [qr L] h (.osl k (qq (getO k h)+1) 1 0 L.length) (setO k h (.mem (qq (getO k h)+1) 3 (qF L))):=by
 have s1:=fun h=>qdg h L
 have eP:=qL L;have hp:=List.length_pos_iff.2 h0;have z0:=qg1 h0;have z1:okP (.isnil .slice false) [qr L]=True:=eqt trivial;refine qpW qpg k (by simp) ?_;simp only[lco,lnl,Nat.reduceAdd,Nat.reduceSub,List.replicate,lca,lna];simp (disch:=omega) only[qqh,s1,z0,z1,go_sem]
 repeat' first
  |(with_reducible apply aiA)
 all_goals first
  |omega
  |contradiction
  |skip
 ·rfl
 exact⟨h.length+1,2,1,0,L.length,3,qF L,_,⟨trivial,trivial⟩,rfl,rfl,om,by simp only[go_sem],qbW L _,hk,rfl,rfl⟩
theorem qpN(x:Co)(l:List Un)(b:List Wd)(i:Nat)(h:List AObj)(hu:qca l)(hb:b.length≤1000000)(hi:i<b.length)(hn:x.sig.length≤1000000)(hul:(b.getD i default).unit<(l.length:Int)):
  ACalls Tryz.prog 84 [.agg (coC x),qx l,qV b,.int .i64 (i:Int)] h (qr (soK x l b i)) h:=by
 have zb:qV b= .sl b.length fun i=>wdC (b.getD i default):=rfl
 have zu:qx l= .sl l.length fun i=>unC (l.getD i default):=rfl
 have zs1: ∀g,valL g .len [strs x.sig]= .int .i64 x.sig.length:=fun _=>rfl
 have zs2: ∀g,okL g .len [strs x.sig]=True:=fun _=>eqt trivial
 have k5:(0≤(i:Int))=True:=eqt om;have k6:((i:Int)<b.length)=True:=eqt om;unfold soK;obtain⟨w,hw⟩: ∃w,w=b.getD i default:=⟨_,rfl⟩
 have ew:=hw.symm;rw[ew]at hul ⊢
 by_cases g1:w.unit<0
 ·have k1:(w.unit<0)=True:=eqt g1;rw[ipo g1];refine acO qnj ?_;simp (disch:=omega) only[qug,coC,zb,wdC,k1,k5,k6,ew,zs1,zs2,go_sem];refine qn (T:=fun s:Nat×Nat×AObj=>qP 48 [(10,.osl (h.length+2) s.2.1 1 0 s.1),(22,.int .i64 x.sig.length),(23,.int .i64 s.1)])
   (H:=fun s=>h++ [.mem 1 26 [.str x.sec,strs x.sig,ql x.tok,qp x.col],.emp 1,jL s.2.1 3 (qF (qew s.1)),s.2.2,.emp 0])
   (inv:=fun s=>s.1≤x.sig.length∧qO [s.2.2] 0=true) (m:=fun s=>x.sig.length-s.1) (0,1,.emp 0) ⟨nzl _,rfl⟩ (Wk.temps ?_) ?_
  ·(simp only[go_sem,qf,qc,qa,qe];try (repeat' first|(with_reducible apply aiA)|(apply qg;omega)|(apply qd;rfl)|exact qi))
  rintro⟨j,v,O⟩ ⟨j1,j2⟩ K hK;simp only at j1 j2 hK;have j2': ∀m,qO (O::m) 0=true:=fun _=>j2
  have hst:=qds j;have hln:=qav j;obtain⟨M,hM⟩: ∃M,M=qew j:=⟨_,rfl⟩
  rw[←hM]at hst hln ⊢;have eC:=qL M;rw[hln]at eC;have eT:List.take j (qF M)=qF M:=ltl om
  by_cases hj:j<x.sig.length
  ·have r1:((j:Int)<x.sig.length)=True:=eqt om;simp (disch:=omega) only[r1,j2',eC,eT,Nat.mul_one,go_sem]
   repeat' first
    |with_reducible apply aiA
   all_goals try exact clz
   have eA:qF M++ [AV.int .i64 (j:Int)]=qF (qew (j+1)):=by rw[hst,jZ];rfl
   have eD:(AV.int .i64 (j:Int)::List.drop 1 (qQ [AV.int .i64 0] 1))= [AV.int .i64 (j:Int)]:=rfl
   try rw[eD]
   try rw[eA]
   refine hK _ _ (j+1,v+1,.mem (qq (some O)+1) 3 [.int .i64 (j:Int)]) ⟨hj,rfl⟩ (by simp only;omega) (Wk.temps ?_)
   (simp only[go_sem,qf,qc,qa,qe];try (repeat' first|(with_reducible apply aiA)|(apply qg;omega)|(apply qd;rfl)|exact qi))
  ·obtain rfl:j=x.sig.length:=by omega
   have r1:((x.sig.length:Int)<x.sig.length)=False:=eqf om;rw[hM];simp (disch:=omega) only[r1,go_sem]
   repeat' first
    |(apply qb;exact rvk;simp only[go_sem])
   exact qoq (fun _=>rfl) (qav _).symm
 have k1:(w.unit<0)=False:=eqf g1;rw[ine g1];obtain⟨k,hk⟩: ∃k:Nat,w.unit=(k:Int):=⟨w.unit.toNat,om⟩
 rw[hk]at hul k1;rw[hk,itn];have c107:=fun h=>qpI l b k h hu hb om
 have hlt:=qcS l b k;have hsl:=qrr (b:=b) (k:=k) hu;have hd:hsK l b k=if 0≤brK l b k then ((l.getD k default).rds.getD (brK l b k).toNat default).src else []:=rfl
 have q1:(0≤(k:Int))=True:=eqt om;have q2:((k:Int)<l.length)=True:=eqt om;obtain⟨r,hr⟩: ∃r,r=brK l b k:=⟨_,rfl⟩
 rw[←hr]at hd hlt;simp only[←hr]at c107
 by_cases g2:0≤r
 case neg=>
  have k2:(0≤r)=False:=eqf g2;rw[ine g2]at hd;rw[hd];refine acO qnj ?_;simp (disch:=omega) only[qug,coC,zb,wdC,k1,k5,k6,ew,hk,go_sem]
  repeat' first
   |(refine cA (c107 _) flk ?_;simp (disch:=omega) only[k2,go_sem])
   |(apply qb;exact rvk;simp only[go_sem])
  exact qbI
 have k2:(0≤r)=True:=eqt g2;rw[ipo g2]at hd;obtain⟨u,hux⟩: ∃u,u=l.getD k default:=⟨_,rfl⟩
 have eu:=hux.symm;rw[eu]at hd hlt;have q3:(r<u.rds.length)=True:=eqt hlt;obtain⟨S,hS⟩: ∃S,S=hsK l b k:=⟨_,rfl⟩
 rw[←hS]at hd hsl ⊢;have eS:=hd.symm;have zr:zB u.rds= .sl u.rds.length fun i=>rdC (u.rds.getD i default):=rfl
 by_cases g3:S= []
 ·subst g3;have c156:=fun h=>qx1 h
  refine acO qnj ?_;simp (disch:=omega) only[qug,coC,zb,wdC,k1,k5,k6,ew,hk,go_sem]
  repeat' first
   |(refine cA (c107 _) flk ?_;simp (disch:=omega) only[zu,unC,zr,rdC,k2,q1,q2,q3,eu,eS,go_sem])
   |with_reducible apply aiA
  all_goals try exact clz
  refine qZ (c156 _) (by exact flk) ?_;simp (disch:=omega) only[go_sem]
  repeat' first
   |(apply qb;exact rvk;simp only[go_sem];exact qi)
 refine acO qnj ?_;simp (disch:=omega) only[qug,coC,zb,wdC,k1,k5,k6,ew,hk,go_sem]
 repeat' first
  |(refine cA (c107 _) flk ?_;simp (disch:=omega) only[zu,unC,zr,rdC,k2,q1,q2,q3,eu,eS,go_sem])
  |with_reducible apply aiA
 all_goals try exact clz
 refine qZ (qzS S _ (h.length+2) (by simp only[go_sem]) g3 hsl) (by exact flk) ?_;simp (disch:=omega) only[go_sem]
 repeat' first
  |(apply qb;exact rvk;simp only[go_sem])
 rw[ipo (by rw[qL];exact nlr _)];exact j0 _ (fun _=>rfl) rfl
theorem qpx(l:List Un)(b:List Wd)(k:Nat)(h:List AObj)(hu:qca l)(hb:b.length≤1000000)(hk:k<l.length):ACalls Tryz.prog 110 [qx l,qV b,.int .i64 (k:Int)] h (qr (hsK l b k)) h:=by
 have c176:=fun h=>qyL b (k:Int) h hb
 have hol:=qf2 b (k:Int) b.length;have hd:hsK l b k=if 0≤brK l b k then ((l.getD k default).rds.getD (brK l b k).toNat default).src else []:=rfl
 have hbr:brK l b k=qbi (fun r=>decide (((l.getD k default).rds.getD r default).words=owG b (k:Int) b.length)) (l.getD k default).rds.length 0:=rfl;obtain⟨W,hW⟩: ∃W,W=owG b (k:Int) b.length:=⟨_,rfl⟩
 rw[←hW]at hol;simp only[←hW]at c176 hbr;have zu:qx l= .sl l.length fun i=>unC (l.getD i default):=rfl
 have k1:((k:Int)<l.length)=True:=eqt om;have k0:(0≤(k:Int))=True:=eqt om;have zrl:=hu.rd k;have zwd:=hu.wd k;have zsr:=hu.sr k;obtain⟨u,hux⟩: ∃u,u=l.getD k default:=⟨_,rfl⟩
 have eu:=hux.symm;rw[eu]at hd hbr zrl;simp only[eu]at zwd zsr;have zr:zB u.rds= .sl u.rds.length fun i=>rdC (u.rds.getD i default):=rfl
 refine acO quK ?_;simp (disch:=omega) only[qtr,go_sem]
 repeat' first
  |(refine cA (c176 _) flk ?_;simp (disch:=omega) only[go_sem])
 refine qn (T:=fun r:Nat=>qP 45 [(0,qx l),(2,.int .i64 k),(7,strs W),(8,.int .i64 r)]) (H:=fun _=>h++ [.emp 1,.emp 0,.emp 0,.emp 0]) (inv:=fun r=>r≤u.rds.length∧ ∀j,j<r→(u.rds.getD j default).words≠W) (m:=fun r=>u.rds.length-r) 0 ⟨nzl _,fun j hj=>absurd hj (nnz j)⟩ (Wk.temps ?_) ?_
 ·(simp only[go_sem,qf,qc,qa,qe];try (repeat' first|(with_reducible apply aiA)|(apply qg;omega)|(apply qd;rfl)|exact qi))
 rintro r ⟨r1,r2⟩ K hK
 by_cases hr:r<u.rds.length
 ·have t1:((r:Int)<u.rds.length)=True:=eqt om;have t0:(0≤(r:Int))=True:=eqt om;have c103:=fun h=>qyQ (u.rds.getD r default).words W h (zwd r) om
  have hhit:(u.rds.getD r default).words=W→hsK l b k=(u.rds.getD r default).src:=fun e=>by
   have e1:brK l b k=r:=by rw[hbr];exact ko hr (fun j hj=>dqf (r2 j hj)) (dqt e)
   rw[hd,e1,ipo om,itn]
  have hsl:=zsr r;obtain⟨x,hx⟩: ∃x,x=u.rds.getD r default:=⟨_,rfl⟩
  have ex:=hx.symm;rw[ex]at hhit hsl;simp only[ex]at c103;have s1:=fun h=>qdg h x.src
  have eI:=qL x.src
  by_cases g:x.words=W
  ·rw[dqt g]at c103;rw[hhit g];simp (disch:=omega) only[zu,unC,zr,rdC,k0,k1,t0,t1,eu,ex,go_sem]
   repeat' first
    |(refine cA (c103 _) flk ?_;simp (disch:=omega) only[zr,rdC,k0,k1,t0,t1,eu,ex,s1,eI,go_sem])
    |(apply qb;exact rvk;simp only[go_sem])
    |with_reducible apply aiA
   all_goals try exact clz
   ·rfl
   rw[ipo (by rw[qL];exact nlr _)];exact j0 _ (fun _=>rfl) rfl
  ·rw[dqf g]at c103;simp (disch:=omega) only[zu,unC,zr,rdC,k0,k1,t0,t1,eu,ex,go_sem]
   repeat' first
    |(refine cA (c103 _) flk ?_;simp (disch:=omega) only[zr,rdC,k0,k1,t0,t1,eu,ex,go_sem])
    |with_reducible apply aiA
   all_goals try exact clz
   refine hK _ _ (r+1) ⟨hr,fun j hj=> ?_⟩ om (Wk.temps ?_)
   ·by_cases e:j=r
    ·subst e;rw[ex];exact g
    ·exact r2 j om
   ·(simp only[go_sem,qf,qc,qa,qe];try (repeat' first|(with_reducible apply aiA)|(apply qg;omega)|(apply qd;rfl)|exact qi))
 ·have t1:((r:Int)<u.rds.length)=False:=eqf om;have hn:hsK l b k= []:=by
   rw[hd,ine];rcases zm (fun r=>decide ((u.rds.getD r default).words=W)) u.rds.length with⟨i,h1,h2,_,_⟩|⟨_,h2⟩
   ·exact absurd (of_decide_eq_true h2) (r2 i om)
   ·rw[hbr,h2];decide
  rw[hn];simp (disch:=omega) only[zu,unC,zr,k0,k1,t1,eu,go_sem]
  repeat' first
   |(apply qb;exact rvk;simp only[go_sem])
   |with_reducible apply aiA
  all_goals try exact clz
  rw[ipo (nzl _)];exact VLe.sl_eq rfl (fun i hi=>absurd hi (nnz _))
end RC
end
