import Derived.Test.YtmieflnoheifbaaGreatDoorK12
import Derived.Test.YtmieflnoheifbaaGreatDoorK15
import Derived.Test.YtmieflnoheifbaaGreatDoorK10
import Derived.Test.YtmieflnoheifbaaGreatDoorK11
import Derived.Test.YtmieflnoheifbaaGreatDoorK3
import Derived.Test.YtmieflnoheifbaaGreatDoorK5
import Derived.Test.YtmieflnoheifbaaGreatDoorK8
import Derived.Test.YtmieflnoheifbaaGreatDoorProg
set_option linter.all false
set_option maxHeartbeats 256000000
set_option maxRecDepth 100000
section
open Go Go.Proofs AF HY LN
namespace RC
def bC(p:Nat->Bool)(n:Nat):wi:=(List.range n).map λk=> .bool (p k)
theorem qaf(p:Nat->Bool)(n:Nat):(bC p n).length=n:=by simp[bC]
theorem qgw{p:Nat->Bool}{n k:Nat}(hk:k<n):(bC p n)[k]? =some (.bool (p k)):=by
 unfold bC;rw[List.getElem?_map,List.getElem?_range hk];rfl
theorem U2{p q:Nat->Bool}{n:Nat}(h: ∀k,k<n->p k=q k):bC p n=bC q n:=by
 unfold bC;exact List.map_congr_left λk hk=>by rw[h k (List.mem_range.1 hk)]
theorem qra{p:Nat->Bool}{n u:Nat}(hu:u<n):List.take u (bC p n)++ [AV.bool true]++List.drop (u+1) (bC p n)=bC (λk=>p k||decide (k=u)) n:=by
 refine List.ext_getElem? λk=> ?_
 by_cases hk:k<n
 ·rw[qgw hk]
  by_cases h1:k<u
  ·rw[List.append_assoc,List.getElem?_append_left (by rw[List.length_take,qaf];omega),List.getElem?_take_of_lt h1,qgw hk,dqf om,Bool.or_false]
  ·by_cases h2:k=u
   ·subst h2;rw[List.append_assoc,List.getElem?_append_right (by rw[List.length_take,qaf];omega),List.length_take,qaf,show k-min k n=0 by omega,dqt rfl,Bool.or_true];rfl
   ·rw[List.getElem?_append_right (by rw[lap,List.length_take,qaf];simp only[lco,lnl];omega),lap,List.length_take,qaf,List.getElem?_drop];simp only[lco,lnl];rw[show u+1+(k-(min u n+(0+1)))=k by omega,qgw hk,dqf h2,Bool.or_false]
 ·rw[List.getElem?_eq_none (by simp only[lap,List.length_take,List.length_drop,qaf,lco,lnl];omega),List.getElem?_eq_none (by rw[qaf];omega)]
theorem qsh(n:Nat):zM [AV.bool false] n=bC (λ_=>false) n:=by
 induction n with
 |zero=>rfl
 |succ n ih=>
  have e:bC (λ_=>false) (n+1)=AV.bool false::bC (λ_=>false) n:=by
   unfold bC;rw[List.range_succ_eq_map,List.map_cons,List.map_map];rfl
  rw[e,<-ih];rfl
theorem qGp(a b:List Int)(h:wh)(h1:a.length<=1000000000)(h2:b.length<=1000000000):ACalls Tryz.prog 99 [qx a,qx b] h (.bool (decide (a=b))) h:=by
 obtain⟨R,hR⟩:=wg (decide (a=b))
 have he:R=decide (a.length=b.length∧ ∀i,i<a.length->a.getD i 0=b.getD i 0):=by rw[hR];exact decide_eq_decide.2 (jX (0:Int))
 rw[<-hR]
 by_cases g:a.length=b.length
 case neg=>
  have k1:((a.length:Int)=b.length)=False:=wl;rw[dqf (λhc=>g hc.1)]at he;rw[he];refine acO qzP ?_;simp (disch:=omega) only[qCI,qx,k1,go_sem]
  repeat' first|exact wc|fail
 have k1:((a.length:Int)=b.length)=True:=wj;refine acO qzP ?_;simp (disch:=omega) only[qCI,qx,k1,go_sem];refine qk (T:=λi:Nat=>qP 26 [(0,qx a),(1,qx b),(5,.int .i64 i)]) (H:=λ_=>h) (inv:=λi=>i<=a.length∧ ∀j,j<i->a.getD j 0=b.getD j 0) (m:=λi=>a.length-i) 0 ⟨nzl _,λj hj=>absurd hj (nnz j)⟩ (Wk.temps ?_) ?_
 ·(simp only[qx,go_sem,qf,qc,qa,qe];try exact we)
 rintro i ⟨i1,i2⟩ K hK
 by_cases hi:i<a.length
 ·have k2:((i:Int)<a.length)=True:=wj;have k3:((i:Int)<b.length)=True:=wj;have k0:(0<=(i:Int))=True:=wj;have hno: ¬a.getD i 0=b.getD i 0->R=false:=λhx=>by rw[he];exact dqf λhc=>hx (hc.2 i hi)
  obtain⟨x,hx⟩:=wg (a.getD i 0)
  obtain⟨y,hy⟩:=wg (b.getD i 0)
  have ex:=hx.symm;have ey:=hy.symm;rw[ex,ey]at hno
  by_cases g2:x=y
  ·have q:(x=y)=True:=eqt g2;simp (disch:=omega) only[qx,k0,k2,k3,ex,ey,q,go_sem]
   repeat' first|with_reducible apply aiA|exact clz|fail
   refine hK _ _ (i+1) ⟨hi,λj hj=> ?_⟩ om (Wk.temps ?_)
   ·by_cases e:j=i
    ·subst e;rw[ex,ey];exact g2
    ·exact i2 j om
   ·(simp only[qx,go_sem,qf,qc,qa,qe];try exact we)
  ·have q:(x=y)=False:=eqf g2;rw[hno g2];simp (disch:=omega) only[qx,k0,k2,k3,ex,ey,q,go_sem]
   repeat' first|exact wc|with_reducible apply aiA|exact clz|fail
 ·have k2:((i:Int)<a.length)=False:=wl;rw[he,dqt ⟨g,λj hj=>i2 j om⟩];simp (disch:=omega) only[qx,k2,go_sem]
  repeat' first|exact wc|fail
theorem qGq(a b:List Rd)(h:wh)(za:qi2 a)(zb:qi2 b):ACalls Tryz.prog 229 [jh a,jh b] h (.bool (decide (a=b))) h:=by
 have ha:=za.n;have hb:=zb.n;obtain⟨R,hR⟩:=wg (decide (a=b))
 have he:R=decide (a.length=b.length∧ ∀i,i<a.length->a.getD i default=b.getD i default):=by rw[hR];exact decide_eq_decide.2 (jX (default:Rd))
 rw[<-hR]
 by_cases g:a.length=b.length
 case neg=>
  have k1:((a.length:Int)=b.length)=False:=wl;rw[dqf (λhc=>g hc.1)]at he;rw[he];refine acO qrr ?_;simp (disch:=omega) only[qsv,jh,k1,go_sem]
  repeat' first|exact wc|fail
 have k1:((a.length:Int)=b.length)=True:=wj;refine acO qrr ?_;simp (disch:=omega) only[qsv,jh,k1,go_sem];refine qk (T:=λi:Nat=>qP 43 [(0,jh a),(1,jh b),(5,.int .i64 i)]) (H:=λ_=>h) (inv:=λi=>i<=a.length∧ ∀j,j<i->a.getD j default=b.getD j default) (m:=λi=>a.length-i) 0 ⟨nzl _,λj hj=>absurd hj (nnz j)⟩ (Wk.temps ?_) ?_
 ·(simp only[jh,go_sem,qf,qc,qa,qe];try exact we)
 rintro i ⟨i1,i2⟩ K hK
 by_cases hi:i<a.length
 ·have k2:((i:Int)<a.length)=True:=wj;have k3:((i:Int)<b.length)=True:=wj;have k0:(0<=(i:Int))=True:=wj;have c1:=λh=>qD3 (a.getD i default).words (b.getD i default).words h (za.wd i) (zb.wd i)
  have c2:=λh=>qGp (a.getD i default).src (b.getD i default).src h (za.sr i) (zb.sr i)
  have hno: ¬a.getD i default=b.getD i default->R=false:=λhx=>by rw[he];exact dqf λhc=>hx (hc.2 i hi)
  obtain⟨x,hx⟩:=wg (a.getD i default)
  obtain⟨y,hy⟩:=wg (b.getD i default)
  have ex:=hx.symm;have ey:=hy.symm;rw[ex,ey]at hno;simp only[ex,ey]at c1 c2
  by_cases g2:x.words=y.words
  case neg=>
   rw[dqf g2]at c1;rw[hno (λe=>g2 (qpW.1 e).1)];simp (disch:=omega) only[jh,rdC,k0,k2,k3,ex,ey,go_sem]
   repeat' first|(refine qj ( .bool false) ?_;simp (disch:=omega) only[go_sem])|(refine cA (c1 _) flk ?_;simp (disch:=omega) only[k0,k2,k3,ex,ey,go_sem])|exact wc|fail
  rw[dqt g2]at c1
  by_cases g3:x.src=y.src
  ·rw[dqt g3]at c2;simp (disch:=omega) only[jh,rdC,k0,k2,k3,ex,ey,go_sem]
   repeat' first|((first|refine cA (c1 _) ?_ ?_|refine cG (λe=>c2 _) ?_ ?_);exact flk;simp (disch:=omega) only[k0,k2,k3,ex,ey,go_sem])|with_reducible apply aiA|exact clz|fail
   refine hK _ _ (i+1) ⟨hi,λj hj=> ?_⟩ om (Wk.temps ?_)
   ·by_cases e:j=i
    ·subst e;rw[ex,ey];exact qpW.2 ⟨g2,g3⟩
    ·exact i2 j om
   ·(simp only[jh,go_sem,qf,qc,qa,qe];try exact we)
  ·rw[dqf g3]at c2;rw[hno (λe=>g3 (qpW.1 e).2)];simp (disch:=omega) only[jh,rdC,k0,k2,k3,ex,ey,go_sem]
   repeat' first|((first|refine cA (c1 _) ?_ ?_|refine cG (λe=>c2 _) ?_ ?_);exact flk;simp (disch:=omega) only[k0,k2,k3,ex,ey,go_sem])|exact wc|with_reducible apply aiA|exact clz|fail
 ·have k2:((i:Int)<a.length)=False:=wl;rw[he,dqt ⟨g,λj hj=>i2 j om⟩];simp (disch:=omega) only[jh,k2,go_sem]
  repeat' first|exact wc|fail
theorem qFz(x:Co)(k:Nat)(h:wh)(ho:CoOk x)(hk:k<x.col.length):ACalls Tryz.prog 231 [.agg (coC x),qx (x.col.getD k [])] h (.bool (cmB x k)) h:=by
 have hsg:=ho.sg;have hcl:=ho.cl k hk;have htn:=ho.tn;obtain⟨R,hR⟩:=wg (cmB x k)
 rw[<-hR];unfold cmB at hR;have hce:=ho.ce k hk;have hct: ∀s,clT x k s=if (x.col.getD k []).getD s 0<0 then none else some ((x.tok.getD s []).getD ((x.col.getD k []).getD s 0).toNat default).text:=λ_=>rfl
 obtain⟨c,hc⟩:=wg (x.col.getD k [])
 rw[<-hc]at hcl hce ⊢;simp only[<-hc]at hct;refine acO qyF ?_;simp (disch:=omega) only[qwE,coC,qx,go_sem];refine qk (T:=λi:Nat=>qP 42 [(1,qx c),(2,.op h.length 1 0),(5,.int .i64 i)]) (H:=λ_=>h++ [.mem 1 26 (coC x)])
  (inv:=λi=>i<=c.length∧ ∀j,j<i->(decide (clT x k j=none)|| !decide (clT x k j=clT x k 0))=false) (m:=λi=>c.length-i) 0 ⟨nzl _,λj hj=>absurd hj (nnz j)⟩ (Wk.temps ?_) ?_
 ·(simp only[qx,go_sem,qf,qc,qa,qe];try exact we)
 rintro i ⟨i1,i2⟩ K hK
 by_cases hi:i<c.length
 ·have k1:((i:Int)<c.length)=True:=wj;have k0:(0<=(i:Int))=True:=wj;have k2:((0:Int)<c.length)=True:=wj;have k3:((i:Int)<x.tok.length)=True:=wj;have k4:((0:Int)<x.tok.length)=True:=wj;have hno:(decide (clT x k i=none)|| !decide (clT x k i=clT x k 0))=true->R=false:=λhx=>by rw[hR,qN.2 ⟨i,om,hx⟩];rfl
  have hS:(decide (clT x k i=none)|| !decide (clT x k i=clT x k 0))=false-> ∀j,j<i+1->(decide (clT x k j=none)|| !decide (clT x k j=clT x k 0))=false:=λhx j hj=>by
   by_cases e:j=i
   ·subst e;exact hx
   ·exact i2 j om
  have h0:c.getD i 0<0∨(0<=c.getD 0 0):=by
   by_cases e:i=0
   ·subst e;omega
   ·have:=i2 0 om
    have h1:=hct 0
    by_cases g:c.getD 0 0<0
    ·rw[ipo g]at h1;rw[h1]at this;simp at this
    ·exact .inr om
  have e1:=hce i om;have e2:=hce 0 om;have t1:=hct i;have t2:=hct 0;obtain⟨t,ht⟩:=wg (c.getD i 0)
  obtain⟨t0,ht0⟩:=wg (c.getD 0 0)
  have et:=ht.symm;have et0:=ht0.symm;rw[et]at h0 e1 t1;rw[et0]at h0 e2 t2;obtain⟨l,hl⟩:=wg (x.tok.getD i [])
  obtain⟨l0,hl0⟩:=wg (x.tok.getD 0 [])
  have el:=hl.symm;have el0:=hl0.symm;rw[el]at e1 t1;rw[el0]at e2 t2
  by_cases g:t<0
  ·have q1:(t<0)=True:=eqt g;rw[ipo g]at t1;rw[hno (by rw[t1];rfl)];simp (disch:=omega) only[coC,qx,k0,k1,et,q1,go_sem]
   repeat' first|exact wa|with_reducible apply aiA|exact clz|fail
  have q1:(t<0)=False:=eqf g;rw[ine g]at t1;have g0: ¬t0<0:=by omega
  rw[ine g0]at t2;have q2:(0<=t)=True:=wj;have q3:(0<=t0)=True:=wj;have q4:(t<l.length)=True:=eqt (by rcases e1 with e|e;omega;omega);have q5:(t0<l0.length)=True:=eqt (by rcases e2 with e|e;omega;omega);obtain⟨a,ha⟩:=wg (l.getD t.toNat default)
  obtain⟨a0,ha0⟩:=wg (l0.getD t0.toNat default)
  have ea:=ha.symm;have ea0:=ha0.symm;rw[ea]at t1;rw[ea0]at t2;rw[t1,t2]at hno;have z0:Int.toNat 0=0:=rfl
  by_cases g2:a.text=a0.text
  ·have q6:(a.text=a0.text)=True:=eqt g2;simp (disch:=omega) only[coC,qx,qn,zy,tkC,k0,k1,k2,k3,k4,et,et0,el,el0,ea,ea0,q1,q2,q3,q4,q5,q6,z0,go_sem]
   repeat' first|with_reducible apply aiA|exact clz|fail
   refine hK _ _ (i+1) ⟨hi,hS (by rw[t1,t2,g2];simp)⟩ om (Wk.temps ?_)
   (simp only[qx,go_sem,qf,qc,qa,qe];try exact we)
  ·have q6:(a.text=a0.text)=False:=eqf g2;rw[hno (by simp[g2])];simp (disch:=omega) only[coC,qx,qn,zy,tkC,k0,k1,k2,k3,k4,et,et0,el,el0,ea,ea0,q1,q2,q3,q4,q5,q6,z0,go_sem]
   repeat' first|exact wa|with_reducible apply aiA|exact clz|fail
 ·have k1:((i:Int)<c.length)=False:=wl;have hV:R=true:=by rw[hR,qp.2 λj hj=>i2 j om];rfl
  rw[hV];simp (disch:=omega) only[coC,qx,k1,go_sem]
  repeat' first|exact wa|fail
theorem qF8(x:Co)(f t s:Nat)(h:wh)(ho:CoOk x)(ht:t<=x.col.length)(hs:s<x.sig.length)(hn:x.col.length<=1000000000):ACalls Tryz.prog 294 [.agg (coC x),.int .i64 (f:Int),.int .i64 (t:Int),.int .i64 (s:Int)] h (strs (rdG x s f (t-f))) h:=by
 have htn:=ho.tn;refine acO qy7 ?_;simp (disch:=omega) only[qw3,coC,go_sem];have eM:zM [AV.str []] 0=jF (rdG x s f 0):=rfl;rw[eM];refine qk (T:=λi:Nat×Nat×AObj=>qP 42 [(2,.int .i64 (t:Int)),(3,.int .i64 (s:Int)),(4,.op h.length 1 0),(9,.osl (h.length+2) i.2.1 1 0 (rdG x s f i.1).length),(10,.int .i64 ((f+i.1:Nat):Int))])
  (H:=λi=>h++ [.mem 1 26 (coC x),.emp 1,.mem i.2.1 9 (jF (rdG x s f i.1)),i.2.2,.emp 0])
  (inv:=λi=>i.1<=t-f∧qz [i.2.2] 0=true) (m:=λi=>t-f-i.1) (0,1,.emp 0) ⟨nzl _,rfl⟩ (Wk.temps ?_) ?_
 ·(simp only[rdG,lnl,Nat.add_zero,go_sem,qf,qc,qa,qe];try exact we)
 rintro⟨d,v,O⟩ ⟨i1,i2⟩ K hK;simp only at i1 i2 hK;have i2': ∀m,qz (O::m) 0=true:=λ_=>i2
 have hln:=qaq x s f d;have hst:rdG x s f (d+1)=rdG x s f d++(clT x (f+d) s).toList:=rfl;obtain⟨L,hL⟩:=wg (rdG x s f d)
 rw[<-hL]at hln hst;have eL:=hL.symm;have eC:=jG L
 by_cases hi:f+d<t
 ·have k1:(((f+d:Nat):Int)<t)=True:=wj;have k2:(((f+d:Nat):Int)<x.col.length)=True:=wj;have k0:(0<=((f+d:Nat):Int))=True:=wj;have k3:((s:Int)<x.tok.length)=True:=wj;have k4:(0<=(s:Int))=True:=wj;have hct:clT x (f+d) s=if (x.col.getD (f+d) []).getD s 0<0 then none else some ((x.tok.getD s []).getD ((x.col.getD (f+d) []).getD s 0).toNat default).text:=rfl
  have hce:=ho.ce (f+d) om s hs;have hcl:=ho.cl (f+d) om;obtain⟨c,hc⟩:=wg (x.col.getD (f+d) [])
  have ec:=hc.symm;rw[ec]at hct hce hcl;have k5:((s:Int)<c.length)=True:=wj;obtain⟨q,hq⟩:=wg (c.getD s 0)
  have eq:=hq.symm;rw[eq]at hct hce;obtain⟨l,hl⟩:=wg (x.tok.getD s [])
  have el:=hl.symm;rw[el]at hct hce;have eTk:List.take L.length (jF L)=jF L:=ltl om
  by_cases g:q<0
  ·have q1:(q<0)=True:=eqt g;have q1':(0<=q)=False:=wl;rw[ipo g]at hct;have hst:rdG x s f (d+1)=L:=by rw[hst,hct];simp
   simp (disch:=omega) only[coC,qv,qx,k0,k1,k2,k4,k5,i2',eL,ec,eq,q1',go_sem]
   repeat' first|with_reducible apply aiA|exact clz|fail
   refine hK _ _ (d+1,v,O) ⟨om,i2⟩ (by simp only;omega) ?_;simp only[hst];refine Wk.temps ?_
   (simp only[go_sem,qf,qc,qa,qe];try exact we)
  ·have q1:(q<0)=False:=eqf g;have q1':(0<=q)=True:=wj;have q2:(q<l.length)=True:=eqt (by rcases hce with e|e;omega;omega);rw[ine g]at hct;obtain⟨w,hw⟩:=wg (l.getD q.toNat default)
   have ew:=hw.symm;rw[ew]at hct;have hst:rdG x s f (d+1)=L++ [w.text]:=by rw[hst,hct];rfl
   simp (disch:=omega) only[coC,qv,qx,qn,zy,tkC,k0,k1,k2,k3,k4,k5,i2',eL,ec,eq,el,ew,q1',q2,Nat.mul_one,eC,eTk,go_sem]
   repeat' first|with_reducible apply aiA|exact clz|fail
   have eA:jF L++ [AV.str w.text]=jF (rdG x s f (d+1)):=by rw[hst,qhh];rfl
   have eD:(AV.str w.text::List.drop 1 (zM [AV.str []] 1))= [AV.str w.text]:=rfl
   try rw[eA]
   try rw[eD]
   refine hK _ _ (d+1,v+1,.mem (qo (some O)+1) 9 [.str w.text]) ⟨om,rfl⟩ (by simp only;omega) ?_;simp only[hst,lap,lco,lnl];refine Wk.temps ?_
   (simp only[go_sem,qf,qc,qa,qe];try exact we)
 ·have k1:(((f+d:Nat):Int)<t)=False:=wl;obtain rfl:d=t-f:=by omega
  rw[eL];simp (disch:=omega) only[k1,go_sem]
  repeat' first|(apply qb;exact rvk;simp only[go_sem])
  rw[ipo (by rw[jG];exact nlr _)];exact qd3 _ (λ_=>rfl) rfl
theorem qDE{h M:wh}{a0 a1 a2 a3 a4 a5 a6 a7:AObj}:(h++a0::a1::a2::a3::a4::a5::a6::a7::M).length=h.length+8+M.length:=by
 simp only[lap,lco];omega
theorem qgP{h M:wh}{a0 a1 a2 a3 a4 a5 a6 a7:AObj}{j:Nat}:qu (h.length+8+j) (h++a0::a1::a2::a3::a4::a5::a6::a7::M)=M[j]? :=by
 unfold qu;rw[List.getElem?_append_right om,show h.length+8+j-h.length=j+8 by omega];rfl
theorem qA7{h M:wh}{a0 a1 a2 a3 a4 a5 a6 a7 o:AObj}{j:Nat}:qt (h.length+8+j) (h++a0::a1::a2::a3::a4::a5::a6::a7::M) o=h++a0::a1::a2::a3::a4::a5::a6::a7::M.set j o:=by
 unfold qt;rw[List.set_append_right _ _ om,show h.length+8+j-h.length=j+8 by omega];rfl
theorem qpY{base:Nat}{L:List Rd}{fz:Nat->Bool}{H:wh}{d:Nat}(hf: ∀j,j<L.length->fz (base+j)=true)(hj: ∀j,j<L.length->qu (base+j) H=some (.mem (L.getD j default).src.length 3 (qM (L.getD j default).src))):
  VLe (.sl L.length λi=>List.map (rei fz H (d+2)) (List.take 2 (List.drop (i*2) (j8 base L)))) (jh L):=by
 refine VLe.sl (λi hi=> ?_);rw[qg5 hi];refine⟨ILe.refl _,?_,trivial⟩;show ILe (rei fz H (d+1+1) (.osl (base+i) _ 1 0 _)) _;rw[rei_osl,ipo (hf i hi),hj i hi];exact qgS (λ_=>rfl) rfl
theorem qGb(x:Co)(f t:Nat)(h:wh)(ho:CoOk x)(ht:t<=x.col.length)(hn:x.col.length<=1000000000):ACalls Tryz.prog 230 [.agg (coC x),.int .i64 (f:Int),.int .i64 (t:Int)] h (jh (qbL x f t)) h:=by
 have zl: ∀g,valL g .len [strs x.sig]= .int .i64 x.sig.length:=λ_=>rfl
 have zo: ∀g,okL g .len [strs x.sig]=True:=λ_=>eqt trivial
 refine acO qyE ?_;simp (disch:=omega) only[qwD,coC,go_sem];have eM:zM [AV.nl,AV.nl] 0=j8 (h.length+8) (kI x f (t-f) 0):=rfl
 try rw[eM]
 have eO: ∀l:wh,l=l++qc9 (kI x f (t-f) 0):=λl=>by simp[kI,qc9]
 refine qk (T:=λi:Nat×Nat×AObj×AObj×AObj=>qP 64 [(1,.int .i64 (f:Int)),(2,.int .i64 (t:Int)),(3,.op h.length 1 0),(7,.osl (h.length+2) i.2.1 2 0 (kI x f (t-f) i.1).length),(8,.int .i64 i.1)])
  (H:=λi=>h++ .mem 1 26 (coC x):: .emp 1:: .mem i.2.1 152 (j8 (h.length+8) (kI x f (t-f) i.1))::i.2.2.1:: .emp 0::i.2.2.2.1::i.2.2.2.2:: .emp 0::qc9 (kI x f (t-f) i.1))
  (inv:=λi=>i.1<=x.sig.length∧qz [i.2.2.1] 0=true∧qz [i.2.2.2.1] 0=true∧qz [i.2.2.2.2] 0=true) (m:=λi=>x.sig.length-i.1) (0,1,.emp 0,.emp 0,.emp 0) ⟨nzl _,rfl,rfl,rfl⟩ (Wk.temps ?_) ?_
 ·(simp only[kI,lnl,go_sem,qf,qc,qa,qe];try exact we)
 rintro⟨s,v,O3,O5,O6⟩ ⟨i1,j3,j5,j6⟩ K hK;simp only at i1 j3 j5 j6 hK;have j5': ∀m,qz (O5::m) 0=true:=λ_=>j5
 have j6': ∀m,qz (O6::m) 0=true:=λ_=>j6
 have hst:kI x f (t-f) (s+1)=qdn (kI x f (t-f) s) (rdG x s f (t-f)) s:=rfl;have hln:=qdQ x f (t-f) s;have hsg:=ho.sg;obtain⟨L,hL⟩:=wg (kI x f (t-f) s)
 rw[<-hL]at hst hln;have eL:=hL.symm
 by_cases hs:s<x.sig.length
 case neg=>
  have k1:((s:Int)<x.sig.length)=False:=wl;obtain rfl:s=x.sig.length:=by omega
  have hF:qbL x f t=L:=by rw[hL];rfl
  rw[hF];simp (disch:=omega) only[k1,eL,coC,zl,zo,go_sem]
  repeat' first|(apply qb;exact rvk;simp only[go_sem])
  rw[ipo (by rw[U6];omega)];exact qpY (d:=5) (λj _=>dqt om) (λj hj=>by rw[qgP];exact qdO hj)
 have k1:((s:Int)<x.sig.length)=True:=wj;have c21:=λh=>qF8 x f t s h ho ht hs hn
 have hRd:=qdP x f (t-f) s;obtain⟨w,hw⟩:=wg (rdG x s f (t-f))
 have hwl:w.length<=1000000000:=by have:=qaq x s f (t-f);rw[<-hw]at this;omega
 rw[<-hw]at hst;simp only[<-hw]at c21;unfold coC at c21;rw[eL]at hRd;have hwL: ∀j,(L.getD j default).words.length<=1000000000:=jH L (λr=>r.words.length<=1000000000) (by decide) λj hj=>by
  have h1:=hRd.nn j hj;obtain⟨y,ys,e⟩:=List.exists_cons_of_ne_nil h1;have h2:=hRd.wd j hj y (by rw[e];exact List.mem_cons_self);rw[h2]
  have:=qaq x y.toNat f (t-f)
  omega
 have hob:= @qdO L;have eKl:=U6 (h.length+8) L;simp (disch:=omega) only[coC,k1,eL,zl,zo,go_sem]
 repeat' first|(refine cA (c21 _) flk ?_;simp (disch:=omega) only[go_sem])
 --the search
 refine qk (T:=λi:Nat×Bool×AObj=>qP 64 [(1,.int .i64 (f:Int)),(2,.int .i64 (t:Int)),(3,.op h.length 1 0),(7,.osl (h.length+2) v 2 0 L.length),(8,.int .i64 s),(9,strs w),(10,.bool i.2.1),(11,.int .i64 i.1)])
  (H:=λi=>h++ .mem 1 26 (coC x):: .emp 1:: .mem v 152 (j8 (h.length+8) (if i.2.1=true then kI x f (t-f) (s+1) else L))::i.2.2:: .emp 0::O5::O6:: .emp 0::qc9 (if i.2.1=true then kI x f (t-f) (s+1) else L))
  (inv:=λi=>i.1<=L.length∧qz [i.2.2] 0=true∧(i.2.1=false-> ∀j,j<i.1->(L.getD j default).words≠w)∧(i.2.1=true->(kI x f (t-f) (s+1)).length=L.length)) (m:=λi=>L.length-i.1) (0,false,O3) ⟨nzl _,j3,λ_ j hj=>absurd hj (nnz j),λe=>(by cases e)⟩ (Wk.temps ?_) ?_
 ·(simp only[go_sem,qf,qc,qa,qe];try exact we)
 rintro⟨k,fd,O4⟩ ⟨m1,m2,m3,m4⟩ K2 hK2;simp only at m1 m2 m3 m4 hK2;have m2': ∀m,qz (O4::m) 0=true:=λ_=>m2
 cases fd with
 |true=>
  have m4:=m4 rfl;have hS:L.length=(kI x f (t-f) (s+1)).length:=m4.symm;simp only[if_true]at hK2 ⊢
  by_cases hk:k<L.length
  ·have t1:((k:Int)<L.length)=True:=wj;simp (disch:=omega) only[t1,go_sem];refine hK _ _ (s+1,v,O4,O5,O6) ⟨hs,m2,j5,j6⟩ (by simp only;omega) ?_;simp only[<-hS];refine Wk.temps ?_
   (simp only[go_sem,qf,qc,qa,qe];try exact we)
  ·have t1:((k:Int)<L.length)=False:=wl;simp (disch:=omega) only[t1,go_sem];refine hK _ _ (s+1,v,O4,O5,O6) ⟨hs,m2,j5,j6⟩ (by simp only;omega) ?_;simp only[<-hS];refine Wk.temps ?_
   (simp only[go_sem,qf,qc,qa,qe];try exact we)
 |false=>
 have m3:=m3 rfl;simp only[Bool.false_eq_true,if_false]at hK2 ⊢
 by_cases hk:k<L.length
 ·have t1:((k:Int)<L.length)=True:=wj;have t0:(0<=(k:Int))=True:=wj;have c86:=λh=>qD3 (L.getD k default).words w h (hwL k) hwl
  obtain⟨A,B,a1,a2,a3⟩:=qbo (h.length+8) L hk;have a3:=a3 ((L.getD k default).src++ [(s:Int)]);have hob:=hob hk;have gw:(j8 (h.length+8) L)[k*2]? =some (strs (L.getD k default).words):=by
   rw[a2,List.append_assoc,List.getElem?_append_right om,show k*2-A.length=0 by omega];rfl
  have gg:(j8 (h.length+8) L)[k*2+1]? =some (.osl (h.length+8+k) (L.getD k default).src.length 1 0 (L.getD k default).src.length):=by
   rw[a2,List.append_assoc,List.getElem?_append_right om,show k*2+1-A.length=1 by omega];rfl
  have hSl:(L.getD k default).src.length<=1000:=by
   have:=(qca x f (t-f) s).src (L.getD k default) (by rw[eL,gdqA,zD hk];exact List.getElem_mem hk)
   have:=qfq (hi:=(s:Int)) (lo:=0) this.1 this.2
   omega
  have hrd:qbK L w=k->kI x f (t-f) (s+1)=L.set k ⟨w,(L.getD k default).src++ [(s:Int)]⟩:=λe=>by
   rw[hst];unfold qdn;rw[e,ine om,itn]
  obtain⟨r,hr⟩:=wg (L.getD k default)
  have er:=hr.symm;rw[er]at a2 a3 hob gw gg hSl hrd;simp only[er]at c86;have k22:(k*2+2<=(j8 (h.length+8) L).length)=True:=wj;have k21:(k*2+1<=(j8 (h.length+8) L).length)=True:=wj
  by_cases g:r.words=w
  case neg=>
   rw[dqf g]at c86;simp (disch:=omega) only[t0,t1,gw,eKl,Option.getD_some,Option.isSome_some,Nat.mul_one,go_sem]
   repeat' first|(refine cA (c86 _) flk ?_;simp (disch:=omega) only[t0,t1,eKl,Option.getD_some,Option.isSome_some,Nat.mul_one,go_sem])|with_reducible apply aiA|exact clz|fail
   refine hK2 _ _ (k+1,false,O4) ⟨hk,m2,λ_ j hj=> ?_,λe=>(by cases e)⟩ (by simp only;omega) ?_
   ·by_cases e:j=k
    ·subst e;rw[er];exact g
    ·exact m3 j (by simp only at hj;omega)
   simp only[Bool.false_eq_true,if_false];refine Wk.temps ?_
   (simp only[go_sem,qf,qc,qa,qe];try exact we)
  rw[dqt g]at c86;have hix:qbK L w=k:=by
   unfold qbK;refine kW hk (λj hj=>dqf λe=>m3 j hj e.symm) (dqt ?_);rw[er,g]
  have hst2:=hrd hix;have hos:= @qg8 L k ⟨w,r.src++ [(s:Int)]⟩;rw[<-hst2]at hos;rw[g,<-hst2]at a3;rw[g]at a2;dsimp only at hos;obtain⟨S,hS⟩:=wg r.src
  rw[<-hS]at a2 a3 hob hos gg hSl;rw[lap,List.length_singleton]at a3 hos;rw[qaP,show qM [(s:Int)]= [AV.int .i64 (s:Int)]from rfl]at hos;have gs:List.take (k*2+1) (j8 (h.length+8) L)++ [.osl (h.length+8+k) (S.length+1) 1 0 (S.length+1)]++List.drop (k*2+1+1) (j8 (h.length+8) L)=j8 (h.length+8) (kI x f (t-f) (s+1)):=by
   rw[a2,a3];exact qkz om
  have eI:=ja S;have el2:(kI x f (t-f) (s+1)).length=L.length:=by rw[hst2,List.length_set]
  have eTi:List.take S.length (qM S)=qM S:=ltl om;simp (disch:=omega) only[t0,t1,gw,eKl,Option.getD_some,Option.isSome_some,Nat.mul_one,itn,go_sem]
  repeat' first|(refine cA (c86 _) flk ?_;simp (disch:=omega) only[t0,t1,gg,m2',eKl,Option.getD_some,Option.isSome_some,qgP,qA7,hob,eTi,Nat.mul_one,itn,go_sem])|with_reducible apply aiA|exact clz|fail
  all_goals try (simp only[jp,zH,qgP,hob,gG,qm,if_true,Option.getD_some,eI,beq_self_eq_true];done)
  all_goals try (simp only[bne_iff_ne];omega)
  all_goals try (simp only[zH,qgP,hob,qm,if_true,Option.getD_some,eI];exact nlr _)
  rw[gs];have eD:(AV.int .i64 (s:Int)::List.drop 1 (zM [i6 0] 1))= [AV.int .i64 (s:Int)]:=rfl;simp only[eD];rw[hos];refine hK2 _ _ (k+1,true,.mem (qo (some O4)+1) 3 [.int .i64 (s:Int)]) ⟨hk,rfl,λe=>(by cases e),λ_=>el2⟩ (by simp only;omega) ?_;simp only[if_true,coC];refine Wk.temps ?_
  (simp only[go_sem,qf,qc,qa,qe];try exact we)
 --not there
 obtain rfl:k=L.length:=by omega
 have t1:((L.length:Int)<L.length)=False:=wl;have hix:qbK L w<0:=by
  rcases kA L w with⟨i,h1,h2,_⟩|⟨_,h2⟩
  ·exact absurd h2 (m3 i h1)
  ·exact h2
 have hst2:kI x f (t-f) (s+1)=L++ [⟨w,[(s:Int)]⟩]:=by
  rw[hst];unfold qdn;rw[ipo hix]
 have eTk:List.take (L.length*2) (j8 (h.length+8) L)=j8 (h.length+8) L:=ltl om;clear hK2;simp (disch:=omega) only[t1,j5',j6',eTk,eKl,Nat.mul_one,go_sem]
 repeat' first|with_reducible apply aiA|exact clz|fail
 have el2:(kI x f (t-f) (s+1)).length=L.length+1:=by rw[hst2,lap];rfl
 have eo:qc9 (kI x f (t-f) (s+1))=qc9 L++ [.mem 1 3 [.int .i64 (s:Int)]]:=by rw[hst2,qg6];rfl
 have ek:j8 (h.length+8) (kI x f (t-f) (s+1))=j8 (h.length+8) L++ [strs w,.osl (h.length+8+L.length) 1 1 0 1]:=by rw[hst2,qeW];rfl
 have eset:(j8 (h.length+8) L++ [strs w,AV.osl (h.length+5) (qo (some O5)+1) 1 0 1]).set (L.length*2+1) (.osl (h.length+8+L.length) 1 1 0 1)=j8 (h.length+8) L++ [strs w,.osl (h.length+8+L.length) 1 1 0 1]:=by
  rw[List.set_append_right _ _ om,eKl,show L.length*2+1-2*L.length=1 by omega];rfl
 refine hK _ _ (s+1,v+1,O4,.emp (qo (some O5)+1+1),.mem (qo (some O6)+1) 152 [strs w,.osl (h.length+5) (qo (some O5)+1) 1 0 1]) ⟨hs,m2,rfl,rfl⟩ (by simp only;omega)
  (Wk.trans (Wk.moveCell (i:=h.length+2) (j:=h.length+5) (a:=L.length*2+1) (w:=v+1) (v:=qo (some O5)+1) (ty:=3) (ty':=152) (ds:=j8 (h.length+8) L++ [strs w,.osl (h.length+5) (qo (some O5)+1) 1 0 1]) (cs:= [.int .i64 (s:Int)]) (sz:=1) (off:=0) (len:=1) ?m1 ?m2 ?m3 om) ?m4)
 case m1=>simp only[go_sem]
 case m2=>
  rw[List.getElem?_append_right om,show L.length*2+1-(j8 (h.length+8) L).length=1 by omega];rfl
 case m3=>simp only[go_sem];rfl
 case m4=>
  have eD:(AV.int .i64 (s:Int)::List.drop 1 (zM [i6 0] 1))= [AV.int .i64 (s:Int)]:=rfl;have eD2: ∀c:AV,(strs w::c::List.drop 2 (zM [AV.nl,AV.nl] 1))= [strs w,c]:=λ_=>rfl
  simp only[eo,ek,el2,coC,eD,eD2,qDE,qg7,go_sem,eset,List.append_assoc,lca];refine Wk.temps ?_
  (simp only[go_sem,qf,qc,qa,qe];try exact we)
def cvN(l:List Un)(i k:Nat):Bool:=jC (λj=>decide ((l.getD j default).frm<=k)&&decide ((k:Int)<(l.getD j default).to)) i
theorem qs3(l:List Un)(k:Nat):cvN l l.length k=cvB l k:=rfl
theorem qEd(x:Co)(l:List Un)(h:wh)(hz:qbd x)(hu:qcS l)(hp:cb SG h):ACalls Tryz.prog 160 [.agg (coC x),qZ l] h (.int .i64 (vaE x l)) h:=by
 have c82:=λl'=>coR x (h++l') hz (hp.app l')
 obtain⟨R,hR⟩:=wg (vaE x l)
 rw[<-hR];unfold vaE rgB qbc cvA at hR;obtain⟨e,he⟩:=wg (coE x)
 have eh:=he.symm;rw[eh]at c82 hR;unfold coC at c82
 by_cases g:e=0
 case neg=>
  have k1:(e=0)=False:=eqf g;rw[ipo g]at hR;rw[hR];refine acO qrk ?_;simp (disch:=omega) only[qsp,coC,go_sem]
  repeat' first|(refine cA (c82 _) flk ?_;simp (disch:=omega) only[k1,go_sem])|exact wa|fail
 have k1:(e=0)=True:=eqt g;rw[ine (λhc=>hc g)]at hR;have ho:=qag (eh.trans g);have hcl:=hz.cl;have hn:=hu.n;have zl: ∀g,valL g .len [qv x.col]= .int .i64 x.col.length:=λ_=>rfl
 have zo: ∀g,okL g .len [qv x.col]=True:=λ_=>eqt trivial
 have k0:(0<=(x.col.length:Int))=True:=wj;have k2:((x.col.length:Int)<=9223372036854775807)=True:=wj;refine acO qrk ?_;simp (disch:=omega) only[qsp,coC,go_sem]
 repeat' first|(refine cA (c82 _) flk ?_;simp (disch:=omega) only[k1,k0,zl,zo,go_sem])|with_reducible apply aiA|exact clz|fail
 all_goals try rw[itn]
 rw[qsh];have p0:bC (λ_=>false) x.col.length=bC (cvN l 0) x.col.length:=rfl;rw[p0];refine qk (T:=λi:Nat×AObj=>qP 105 [(1,qZ l),(2,.op h.length 1 0),(5,.osl (h.length+1) 1 1 0 x.col.length),(6,.int .i64 i.1)])
  (H:=λi=>h++ [.mem 1 26 (coC x),.mem 1 4 (bC (cvN l i.1) x.col.length),i.2])
  (inv:=λi=>i.1<=l.length∧qz [i.2] 0=true∧ ∀j,j<i.1->unB x (beH l j) (l.getD j default)=true) (m:=λi=>l.length-i.1) (0,.emp 0) ⟨nzl _,rfl,λj hj=>absurd hj (nnz j)⟩ (Wk.temps ?_) ?_
 ·(simp only[qZ,go_sem,qf,qc,qa,qe];try exact we)
 rintro⟨i,O⟩ ⟨i1,i2,i3⟩ K hK;simp only at i1 i2 i3 hK;have i2': ∀m,qz (O::m) 0=true:=λ_=>i2
 by_cases hi:i<l.length
 ·have t1:((i:Int)<l.length)=True:=wj;have t0:(0<=(i:Int))=True:=wj;have hno:unB x (beH l i) (l.getD i default)=false->R=20:=λhx=>by
   rw[hR,ipo];rw[qN.2 ⟨i,hi,by rw[hx];rfl⟩];rfl
  have hun:unB x (beH l i) (l.getD i default)= !(decide ((l.getD i default).frm<=beH l i)||(decide ((l.getD i default).frm<0)||(decide ((l.getD i default).to<=(l.getD i default).frm)||(decide ((x.col.length:Int)<(l.getD i default).to)|| !decide ((l.getD i default).rds=qbL x (l.getD i default).frm.toNat (l.getD i default).to.toNat))))):=rfl;have hbe:beH l i=if i=0 then-1 else (l.getD (i-1) default).to:=rfl
  have hcs: ∀k,cvN l (i+1) k=(cvN l i k||(decide ((l.getD i default).frm<=k)&&decide ((k:Int)<(l.getD i default).to))):=λk=>qcg _ _
  have hrs:qi2 (l.getD i default).rds:=⟨hu.rd i,hu.sr i,hu.wd i⟩
  have hS:unB x (beH l i) (l.getD i default)=true-> ∀j,j<i+1->unB x (beH l j) (l.getD j default)=true:=λhx j hj=>by
   by_cases e:j=i
   ·subst e;exact hx
   ·exact i3 j om
  obtain⟨u,hux⟩:=wg (l.getD i default)
  have eu:=hux.symm;simp only[eu]at hno hun hcs hrs hS
  by_cases a1:u.frm<0
  ·have q1:(u.frm<0)=True:=eqt a1;rw[hno (by rw[hun,dqt a1];simp)];simp (disch:=omega) only[coC,qZ,unC,t0,t1,eu,i2',q1,go_sem]
   repeat' first|(refine qj ( .bool false) ?_;simp (disch:=omega) only[zl,go_sem])|exact wa|(with_reducible first|intro _|apply aiA)|exact clz|fail
  have q1:(u.frm<0)=False:=eqf a1
  by_cases a2:u.to<=u.frm
  ·have q2:(u.to<=u.frm)=True:=eqt a2;rw[hno (by rw[hun,dqt a2];simp)];simp (disch:=omega) only[coC,qZ,unC,t0,t1,eu,i2',q1,q2,go_sem]
   repeat' first|(refine qj ( .bool false) ?_;simp (disch:=omega) only[zl,go_sem])|exact wa|(with_reducible first|intro _|apply aiA)|exact clz|fail
  have q2:(u.to<=u.frm)=False:=eqf a2
  by_cases a3:(x.col.length:Int)<u.to
  ·have q3:((x.col.length:Int)<u.to)=True:=eqt a3;rw[hno (by rw[hun,dqt a3];simp)];simp (disch:=omega) only[coC,qZ,unC,t0,t1,eu,i2',q1,q2,q3,zl,zo,go_sem]
   repeat' first|(refine qj ( .bool false) ?_;simp (disch:=omega) only[go_sem])|exact wa|(with_reducible first|intro _|apply aiA)|exact clz|fail
  have q3:((x.col.length:Int)<u.to)=False:=eqf a3;obtain⟨F,hF⟩: ∃F:Nat,u.frm=(F:Int):=⟨u.frm.toNat,om⟩
  obtain⟨G,hG⟩: ∃G:Nat,u.to=(G:Int):=⟨u.to.toNat,om⟩
  have c180:=λh=>qGb x F G h ho om hcl
  have hsz:qi2 (qbL x F G):=qmg x F (G-F) om x.sig.length (by have:=ho.sg;omega);have c179:=λh=>qGq u.rds (qbL x F G) h hrs hsz
  unfold coC at c180;rw[hF,hG,itn,itn]at hun;simp only[hF,hG]at q1 q2 q3 a1 a2 a3 hcs;have fin:unB x (beH l i) u=true->True:=λ_=>trivial
  have hlast: ∀(B:Bool),B=decide (u.rds=qbL x F G)->(¬(i≠0∧(F:Int)<=(l.getD (i-1) default).to))->unB x (beH l i) u=B:=λB hB hg=>by
   have e1:decide ((F:Int)<=beH l i)=false:=dqf (by
    rw[hbe];split
    ·omega
    ·rename_i hx
     exact λhc=>hg ⟨hx,hc⟩)
   rw[hun,e1,dqf a1,dqf a2,dqf a3,<-hB];simp
  obtain⟨D,hD⟩:=wg (qbL x F G)
  rw[<-hD]at hlast;simp only[<-hD]at c180 c179
  --behind the head of the condition:the rest
  by_cases a4:i≠0∧(F:Int)<=(l.getD (i-1) default).to
  ·obtain⟨b1,b2⟩:=a4;have hm:((i:Int)-1)=((i-1:Nat):Int):=by omega
   have m1:(((i-1:Nat):Int)<l.length)=True:=wj;have m0:(0<=((i-1:Nat):Int))=True:=wj;have t2:((0:Int)<i)=True:=wj;have hV:R=20:=hno (by
    rw[hun,hbe,ine b1,dqt b2]
    rfl)
   obtain⟨u0,hu0⟩:=wg (l.getD (i-1) default)
   have eu0:=hu0.symm;rw[eu0]at b2;have q4:((F:Int)<=u0.to)=True:=eqt b2;rw[hV];simp (disch:=omega) only[coC,qZ,unC,t0,t1,t2,hm,m0,m1,eu,eu0,i2',hF,hG,q1,q2,q3,q4,zl,zo,go_sem]
   repeat' first|(refine qj ( .bool false) ?_;simp (disch:=omega) only[go_sem])|exact wa|with_reducible apply aiA|exact clz|fail
  have hlast:=λB hB=>hlast B hB a4
  have hst: ∀(z:Bool),z=decide (u.rds=D)->(z=true-> ∀j,j<i+1->unB x (beH l j) (l.getD j default)=true)∧(z=false->R=20):=λz hz=>⟨λe=>hS (by rw[hlast z hz,e]),λe=>hno (by rw[hlast z hz,e])⟩
  obtain⟨z,hzz⟩:=wg (decide (u.rds=D))
  obtain⟨hst1,hst2⟩:=hst z hzz;simp only[<-hzz]at c179;have inner:z=true-> ∀(K2:Prop) ,True:=λ_ _=>trivial
  by_cases b0:i=0
  ·have t2:((0:Int)<i)=False:=wl;cases z with
   |false=>
    rw[hst2 rfl];simp (disch:=omega) only[coC,qZ,unC,t0,t1,t2,eu,i2',hF,hG,q1,q2,q3,zl,zo,go_sem]
    repeat' first|((first|refine cG (λe=>c180 _) ?_ ?_|refine cG (λe=>c179 _) ?_ ?_);exact flk;simp (disch:=omega) only[go_sem])|exact wa|(with_reducible first|intro _|apply aiA)|exact clz|fail
   |true=>
   simp (disch:=omega) only[coC,qZ,unC,t0,t1,t2,eu,i2',hF,hG,q1,q2,q3,zl,zo,go_sem]
   repeat' first|((first|refine cG (λe=>c180 _) ?_ ?_|refine cG (λe=>c179 _) ?_ ?_);exact flk;simp (disch:=omega) only[go_sem])|(apply qb;exact rvk;simp only[go_sem];apply qg)|(with_reducible first|intro _|apply aiA)|exact clz|fail
   obtain⟨pf,hpf⟩: ∃pf:Nat->Nat->Bool,pf=λm k=>cvN l i k||(decide (F<=k)&&decide (k<m)):=⟨_,rfl⟩
   have p1:bC (cvN l i) x.col.length=bC (pf F) x.col.length:=U2 λk _=>by
    rw[hpf];dsimp only
    by_cases h1:F<=k
    ·rw[dqf (by omega: ¬k<F)];simp
    ·rw[dqf h1];simp
   rw[p1];refine qk (T:=λm:Nat=>qP 105 [(1,qZ l),(2,.op h.length 1 0),(5,.osl (h.length+1) 1 1 0 x.col.length),(6,.int .i64 i),(7,.op (h.length+2) (qo (some O)+1) 0),(8,.int .i64 m)])
    (H:=λm=>h++ [.mem 1 26 (coC x),.mem 1 4 (bC (pf m) x.col.length),.mem (qo (some O)+1) 39 [.int .i64 (F:Int),.int .i64 (G:Int),jh u.rds]])
    (inv:=λm=>F<=m∧m<=G) (m:=λm=>G-m) F ⟨nlr _,om⟩ (Wk.temps ?_) ?_
   ·(simp only[qZ,unC,go_sem,qf,qc,qa,qe];try exact we)
   rintro m ⟨m1',m2'⟩ K2 hK2
   by_cases hm':m<G
   ·have r1:((m:Int)<G)=True:=wj;have r0:(0<=(m:Int))=True:=wj;have r2:((m:Int)<x.col.length)=True:=wj;have mn:m<x.col.length:=by omega
    have r3:(m<x.col.length)=True:=eqt mn;have r4:(m+1<=x.col.length)=True:=eqt mn;have gl:=qaf (pf m) x.col.length;have gs1:=qra (p:=pf m) mn;have hpn:bC (λk=>pf m k||decide (k=m)) x.col.length=bC (pf (m+1)) x.col.length:=U2 λk _=>by
     rw[hpf];dsimp only
     by_cases h1:k=m
     ·subst h1;rw[dqt (by omega:F<=k),dqt (by omega:k<k+1)];simp
     ·rw[dqf h1,Bool.or_false]
      by_cases h2:k<m
      ·rw[dqt h2,dqt (by omega:k<m+1)]
      ·rw[dqf h2,dqf (by omega: ¬k<m+1)]
    simp (disch:=omega) only[coC,qZ,unC,r0,r1,r2,r4,gl,gs1,Nat.mul_one,Nat.zero_add,itn,Option.isSome_some,go_sem]
    try rw[hpn]
    refine hK2 _ _ (m+1) ⟨om,hm'⟩ om (Wk.temps ?_)
    (simp only[qZ,unC,go_sem,qf,qc,qa,qe];try exact we)
   obtain rfl:m=G:=by omega
   have r1:((m:Int)<m)=False:=wl;have p2:bC (pf m) x.col.length=bC (cvN l (i+1)) x.col.length:=U2 λk _=>by
    rw[hcs,hpf];dsimp only;have e1:decide ((F:Int)<=(k:Int))=decide (F<=k):=decide_eq_decide.2 om;have e2:decide ((k:Int)<(m:Int))=decide (k<m):=decide_eq_decide.2 om;rw[e1,e2]
   rw[p2];simp (disch:=omega) only[r1,go_sem];refine hK _ _ (i+1,.mem (qo (some O)+1) 39 [.int .i64 (F:Int),.int .i64 (m:Int),jh u.rds]) ⟨hi,rfl,hst1 rfl⟩ (by simp only;omega) (Wk.temps ?_)
   (simp only[qZ,unC,go_sem,qf,qc,qa,qe];try exact we)
  have t2:((0:Int)<i)=True:=wj;have hm:((i:Int)-1)=((i-1:Nat):Int):=by omega
  have m1:(((i-1:Nat):Int)<l.length)=True:=wj;have m0:(0<=((i-1:Nat):Int))=True:=wj;have b4: ¬(F:Int)<=(l.getD (i-1) default).to:=λhc=>a4 ⟨b0,hc⟩
  obtain⟨u0,hu0⟩:=wg (l.getD (i-1) default)
  have eu0:=hu0.symm;rw[eu0]at b4;have q4:((F:Int)<=u0.to)=False:=eqf b4;cases z with
  |false=>
   rw[hst2 rfl];simp (disch:=omega) only[coC,qZ,unC,t0,t1,t2,eu,i2',hF,hG,q1,q2,q3,zl,zo,hm,m0,m1,eu0,q4,go_sem]
   repeat' first|((first|refine cG (λe=>c180 _) ?_ ?_|refine cG (λe=>c179 _) ?_ ?_);exact flk;simp (disch:=omega) only[go_sem])|exact wa|with_reducible apply aiA|exact clz|fail
  |true=>
  simp (disch:=omega) only[coC,qZ,unC,t0,t1,t2,eu,i2',hF,hG,q1,q2,q3,zl,zo,hm,m0,m1,eu0,q4,go_sem]
  repeat' first|((first|refine cG (λe=>c180 _) ?_ ?_|refine cG (λe=>c179 _) ?_ ?_);exact flk;simp (disch:=omega) only[go_sem])|with_reducible apply aiA|exact clz|fail
  obtain⟨pf,hpf⟩: ∃pf:Nat->Nat->Bool,pf=λm k=>cvN l i k||(decide (F<=k)&&decide (k<m)):=⟨_,rfl⟩
  have p1:bC (cvN l i) x.col.length=bC (pf F) x.col.length:=U2 λk _=>by
   rw[hpf];dsimp only
   by_cases h1:F<=k
   ·rw[dqf (by omega: ¬k<F)];simp
   ·rw[dqf h1];simp
  rw[p1];refine qk (T:=λm:Nat=>qP 105 [(1,qZ l),(2,.op h.length 1 0),(5,.osl (h.length+1) 1 1 0 x.col.length),(6,.int .i64 i),(7,.op (h.length+2) (qo (some O)+1) 0),(8,.int .i64 m)])
   (H:=λm=>h++ [.mem 1 26 (coC x),.mem 1 4 (bC (pf m) x.col.length),.mem (qo (some O)+1) 39 [.int .i64 (F:Int),.int .i64 (G:Int),jh u.rds]])
   (inv:=λm=>F<=m∧m<=G) (m:=λm=>G-m) F ⟨nlr _,om⟩ (Wk.temps ?_) ?_
  ·(simp only[qZ,unC,go_sem,qf,qc,qa,qe];try exact we)
  rintro m ⟨m1',m2'⟩ K2 hK2
  by_cases hm':m<G
  ·have r1:((m:Int)<G)=True:=wj;have r0:(0<=(m:Int))=True:=wj;have r2:((m:Int)<x.col.length)=True:=wj;have mn:m<x.col.length:=by omega
   have r3:(m<x.col.length)=True:=eqt mn;have r4:(m+1<=x.col.length)=True:=eqt mn;have gl:=qaf (pf m) x.col.length;have gs1:=qra (p:=pf m) mn;have hpn:bC (λk=>pf m k||decide (k=m)) x.col.length=bC (pf (m+1)) x.col.length:=U2 λk _=>by
    rw[hpf];dsimp only
    by_cases h1:k=m
    ·subst h1;rw[dqt (by omega:F<=k),dqt (by omega:k<k+1)];simp
    ·rw[dqf h1,Bool.or_false]
     by_cases h2:k<m
     ·rw[dqt h2,dqt (by omega:k<m+1)]
     ·rw[dqf h2,dqf (by omega: ¬k<m+1)]
   simp (disch:=omega) only[coC,qZ,unC,r0,r1,r2,r4,gl,gs1,Nat.mul_one,Nat.zero_add,itn,Option.isSome_some,go_sem]
   try rw[hpn]
   refine hK2 _ _ (m+1) ⟨om,hm'⟩ om (Wk.temps ?_)
   (simp only[qZ,unC,go_sem,qf,qc,qa,qe];try exact we)
  obtain rfl:m=G:=by omega
  have r1:((m:Int)<m)=False:=wl;have p2:bC (pf m) x.col.length=bC (cvN l (i+1)) x.col.length:=U2 λk _=>by
   rw[hcs,hpf];dsimp only;have e1:decide ((F:Int)<=(k:Int))=decide (F<=k):=decide_eq_decide.2 om;have e2:decide ((k:Int)<(m:Int))=decide (k<m):=decide_eq_decide.2 om;rw[e1,e2]
  rw[p2];simp (disch:=omega) only[r1,go_sem];refine hK _ _ (i+1,.mem (qo (some O)+1) 39 [.int .i64 (F:Int),.int .i64 (m:Int),jh u.rds]) ⟨hi,rfl,hst1 rfl⟩ (by simp only;omega) (Wk.temps ?_)
  (simp only[qZ,unC,go_sem,qf,qc,qa,qe];try exact we)
 have t1:((i:Int)<l.length)=False:=wl;obtain rfl:i=l.length:=by omega
 rw[qp.2 λj hj=>by rw[i3 j hj];rfl]at hR;clear hK;simp (disch:=omega) only[qZ,t1,zl,zo,coC,go_sem];refine qk (T:=λk:Nat=>qP 105 [(2,.op h.length 1 0),(5,.osl (h.length+1) 1 1 0 x.col.length),(9,.int .i64 k)])
  (H:=λ_=>h++ [.mem 1 26 (coC x),.mem 1 4 (bC (cvN l l.length) x.col.length),O])
  (inv:=λk=>k<=x.col.length∧ ∀j,j<k->(!cvB l j&& !cmB x j)=false) (m:=λk=>x.col.length-k) 0 ⟨nzl _,λj hj=>absurd hj (nnz j)⟩ (Wk.temps ?_) ?_
 ·(simp only[go_sem,qf,qc,qa,qe];try exact we)
 rintro k ⟨k1',k2'⟩ K hK
 by_cases hk:k<x.col.length
 ·have t1:((k:Int)<x.col.length)=True:=wj;have t0:(0<=(k:Int))=True:=wj;have r3:(k<x.col.length)=True:=eqt hk;have r4:(k+1<=x.col.length)=True:=eqt hk;have gl:=qaf (cvN l l.length) x.col.length;have gg:=qgw (p:=cvN l l.length) hk;rw[qs3]at gg;have c181:=λh=>qFz x k h ho hk
  have hno:(!cvB l k&& !cmB x k)=true->R=20:=λhx=>by
   rw[hR,qN.2 ⟨k,hk,hx⟩];rfl
  have hS:(!cvB l k&& !cmB x k)=false-> ∀j,j<k+1->(!cvB l j&& !cmB x j)=false:=λhx j hj=>by
   by_cases e:j=k
   ·subst e;exact hx
   ·exact k2' j om
  obtain⟨A,hA⟩:=wg (cvB l k)
  obtain⟨B,hB⟩:=wg (cmB x k)
  rw[<-hA,<-hB]at hno hS;rw[<-hA]at gg;simp only[<-hB]at c181;obtain⟨c,hcx⟩:=wg (x.col.getD k [])
  have ec:=hcx.symm;simp only[ec]at c181;unfold coC at c181;have zc:qv x.col= .sl x.col.length λi=> [qx (x.col.getD i [])]:=rfl
  cases A with
  |true=>
   simp (disch:=omega) only[coC,zc,t0,t1,r3,gl,gg,ec,Nat.mul_one,Nat.zero_add,itn,Option.isSome_some,Option.getD_some,go_sem]
   repeat' first|(refine qj ( .bool false) ?_;simp (disch:=omega) only[go_sem])|with_reducible apply aiA|exact clz|fail
   refine hK _ _ (k+1) ⟨hk,hS rfl⟩ om (Wk.temps ?_)
   (simp only[go_sem,qf,qc,qa,qe];try exact we)
  |false=>
   cases B with
   |true=>
    simp (disch:=omega) only[coC,zc,t0,t1,r3,gl,gg,ec,Nat.mul_one,Nat.zero_add,itn,Option.isSome_some,Option.getD_some,go_sem]
    repeat' first|(refine cG (λe=>c181 _) flk ?_;simp (disch:=omega) only[go_sem])|with_reducible apply aiA|exact clz|fail
    refine hK _ _ (k+1) ⟨hk,hS rfl⟩ om (Wk.temps ?_)
    (simp only[go_sem,qf,qc,qa,qe];try exact we)
   |false=>
    rw[hno rfl];simp (disch:=omega) only[coC,zc,t0,t1,r3,gl,gg,ec,Nat.mul_one,Nat.zero_add,itn,Option.isSome_some,Option.getD_some,go_sem]
    repeat' first|(refine cG (λe=>c181 _) flk ?_;simp (disch:=omega) only[go_sem])|exact wa|with_reducible apply aiA|exact clz|fail
 have t1:((k:Int)<x.col.length)=False:=wl;have hV:R=0:=by
  rw[hR,qp.2 λj hj=>k2' j om];rfl
 rw[hV];simp (disch:=omega) only[t1,zl,zo,coC,go_sem]
 repeat' first|exact wa|with_reducible apply aiA|exact clz|fail
end RC
end
section
open Go Go.Proofs AF
end
section
open Go Go.Proofs AF HY LN
namespace RC
theorem qhf(h:wh)(L:List Int):ql h (qx L)=some (L.length,qM L):=by
 show some (L.length,_)=_;rw[fmI]
end RC
end
section
open Go Go.Proofs AF
def qb5:List Nat:= []
def qCD:C:=
 (vU [ON 4 (.nilo 0 1 3) []] ((vU [MV 9 1,vP 10 .lss 9 0] (vV 10 C.bad)).seq (vU [MV 13 0,O1 14 .len 13,O1 15 (.conv .u64) 14,MV 16 1,O1 17 (.conv .u64) 16,O2 18 (.call 144 true)
 15 17,MV 12 18,O1 19 (.ext 0) 12,O1 20 (.ext 1) 12,MV 5 19,MV 6 20] ((vU [MV 21 5,BC 22 .gtr 21 (.int .u64 0),MV 23 22,vS 24 23 6,vT 25 23 (.bin .gtr) 24 (.int .u64
 9223372036854775807),PT 26 23 25] (vV 26 C.bad)).seq (vU [MV 28 6,O1 29 (.conv .i64) 28,⟨some 30,none,.mkslc 1 1 3 [i6 0] 8,[.t 29,.t 29]⟩,MV 7 30] (vU [MV 31 7,MV 32 0,O2 33
 (.cpy 1) 31 32,MV 8 33] ((C.block 0 ((v6 34 8 7 0).seq (C.block 1 (vY [MV 38 8,MV 39 7,MV 40 8,O2 41 (.slc 1 true false) 39 40,MV 42 7,MV 43 8,O2 44 (.slc 1 false true) 42
 43,O2 45 (.cpy 1) 41 44,BI 46 .add 38 45,MV 8 46]))).loop).seq (vX [MV 47 7,MV 4 47]))))))))
theorem qzJ:qG Tryz.prog 68 48 2 [RV.tmp 4] qCD:=fi Tryz.f68 [4,30] qb5 []
def qwd:C:=
 (vU [MC 4 (.int .u64 0),MC 5 (.int .u64 0)] ((C.cond (.c (.bool false)) (vU [MV 11 0,O1 12 (.conv .u32) 11,MV 13 1,O1 14 (.conv .u32) 13,O2 15 (.call 217 true) 12 14,MV 10 15,O1
 16 (.ext 0) 10,O1 17 (.ext 1) 10,MV 6 16,MV 7 17] (vX [MV 18 6,O1 19 (.conv .u64) 18,MV 20 7,O1 21 (.conv .u64) 20,MV 4 19,MV 5 21])) C.skip).seq (vU [MV 23 0,MV 24 1,O2 25
 (.call 218 true) 23 24,MV 22 25,O1 26 (.ext 0) 22,O1 27 (.ext 1) 22,MV 8 26,MV 9 27] (vX [MV 28 8,MV 29 9,MV 4 28,MV 5 29]))))
theorem qyd:qG Tryz.prog 144 30 0 [RV.tmp 4,RV.tmp 5] qwd:=fi Tryz.f144 [] qb5 []
def qww:C:=
 (vU [MC 4 (.int .u64 0),MC 5 (.int .u64 0)] (vU [MV 14 0,BC 15 .and 14 (.int .u64 4294967295),MV 6 15] (vU [MV 16 0,BC 17 .shr 16 (.int .u64 32),MV 7 17] (vU [MV 18 1,BC 19 .and
 18 (.int .u64 4294967295),MV 8 19] (vU [MV 20 1,BC 21 .shr 20 (.int .u64 32),MV 9 21] (vU [MV 22 6,MV 23 8,BI 24 .mul 22 23,MV 10 24] (vU [MV 25 7,MV 26 8,BI 27 .mul 25 26,MV
 28 10,BC 29 .shr 28 (.int .u64 32),BI 30 .add 27 29,MV 11 30] (vU [MV 31 11,BC 32 .and 31 (.int .u64 4294967295),MV 12 32] (vU [MV 33 11,BC 34 .shr 33 (.int .u64 32),MV 13 34]
 (vU [MV 35 12,MV 36 6,MV 37 9,BI 38 .mul 36 37,BI 39 .add 35 38,MV 12 39] (vU [MV 40 7,MV 41 9,BI 42 .mul 40 41,MV 43 13,BI 44 .add 42 43,MV 45 12,BC 46 .shr 45 (.int .u64
 32),BI 47 .add 44 46,MV 4 47] (vX [MV 48 0,MV 49 1,BI 50 .mul 48 49,MV 5 50]))))))))))))
theorem qyx:qG Tryz.prog 218 51 0 [RV.tmp 4,RV.tmp 5] qww:=fi Tryz.f218 [] qb5 []
def qCe:C:=
 (vU [ON 2 (.nilo 0 3 39) []] ((vU [MV 3 0,O1 4 (.isnil .slice false) 3] (vV 4 (vX [ON 2 (.nilo 0 3 39) []]))).seq (vX [⟨some 5,none,.bslc 1 3 0 39 [i6 0,i6 0,.nl] [],[]⟩,MV 6
 0,O2 7 (.app 2 3 39 40) 5 6,MV 2 7])))
theorem qtr:qG Tryz.prog 71 8 3 [RV.tmp 2] qCe:=fi Tryz.f71 [2,5,7] qb5 []
end
section
open Go Go.Proofs AF HY LN
namespace RC
def qac(L:List Un):wi:=L.flatMap unC
theorem qnb(u:Un):(unC u).length=3:=rfl
theorem qcb(L:List Un):(qac L).length=L.length*3:=by
 unfold qac
 induction L with
 |nil=>rfl
 |cons a L ih=>rw[List.flatMap_cons,lap,ih,lco,qnb];omega
theorem qqP(A B:List Un):qac (A++B)=qac A++qac B:=by simp[qac]
theorem qqQ(a:Un):qac [a]=unC a:=by simp[qac]
theorem qnc(L:List Un): ∀i,(qac L).drop (i*3)=qac (L.drop i):=by
 induction L with
 |nil=>intro i;simp[qac]
 |cons a L ih=>
  intro i;cases i with
  |zero=>simp
  |succ i=>
   rw[show qac (a::L)=unC a++qac L from rfl,show (a::L).drop (i+1)=L.drop i from rfl,<-ih i];rw[show (i+1)*3=(unC a).length+i*3 by rw[qnb];omega,List.drop_append,List.drop_eq_nil_of_le om,lna,Nat.add_sub_cancel_left]
theorem qho{L:List Un}{i:Nat}(hi:i<L.length):((qac L).drop (i*3)).take 3=unC (L.getD i default):=by
 rw[qnc,List.drop_eq_getElem_cons hi,gdqA,zD hi];rfl
theorem qoY(L:List Un):((List.range L.length).flatMap λi=>unC (L.getD i default))=qac L:=by
 unfold qac;have e:L=(List.range L.length).map λi=>L.getD i default:=by
  apply List.ext_getElem (by simp);intro i h1 h2;simp[gdqA,h1]
 conv=>rhs;rw[e]
 rw[List.flatMap_map]
theorem qmS(h:wh)(L:List Un):ql h (qZ L)=some (L.length,qac L):=by
 show some (L.length,_)=_;rw[qoY]
theorem qd6(L:List Un)(n:Nat): ∀c∈qac L,qV n c=true:=by
 intro c hc;unfold qac at hc;obtain⟨x,_,hx⟩:=List.mem_flatMap.1 hc;simp only[unC,List.mem_cons,List.not_mem_nil,or_false]at hx;rcases hx with rfl|rfl|rfl<;>rfl
theorem qlq{L:List Un}(h:L≠ []):valP (.isnil .slice false) [qZ L]= .bool false:=by
 unfold qZ;rw[qba,ine (by simpa using h)];rfl
theorem qFx(L:List Un)(h:wh)(k:Nat)(hk:qz h k=true)(h0:L≠ [])(hl:L.length<=1000000000):
  ACalls Tryz.prog 71 [qZ L] h (.osl k (qo (qu k h)+1) 3 0 L.length) (qt k h (.mem (qo (qu k h)+1) 39 (qac L))):=by
 have s1:=λh=>qmS h L
 have eP:=qcb L;have hp:=List.length_pos_iff.2 h0;have z0:=qlq h0;have z1:okP (.isnil .slice false) [qZ L]=True:=eqt trivial;refine qfo qtr k (by simp) ?_;simp only[lco,lnl,Nat.reduceAdd,Nat.reduceSub,List.replicate,lca,lna];simp (disch:=omega) only[qCe,s1,z0,z1,go_sem]
 repeat' first|(with_reducible apply aiA)
 all_goals first
  |omega
  |contradiction
  |skip
 all_goals try rfl
 exact⟨h.length+1,2,3,0,L.length,39,qac L,_,⟨trivial,trivial⟩,rfl,rfl,om,by simp only[go_sem],qd6 L _,hk,rfl,rfl⟩
theorem qej{n:Int}(h0:0<=n)(h1:n<18446744073709551616):IntKind.u64.wrap n=n:=by
 have e1:(2:Int)^IntKind.bits IntKind.u64=18446744073709551616:=rfl;have e3:IntKind.signed IntKind.u64=false:=rfl;unfold IntKind.wrap;rw[e1,e3];simp only[Bool.false_and,Bool.false_eq_true,if_false];omega
theorem qmB{a:Int}:qvM .u64 a 32=a/4294967296:=by
 have e:(2:Int)^(min (32:Int).toNat IntKind.u64.bits)=4294967296:=rfl;unfold qvM;rw[e,Int.fdiv_eq_ediv_of_nonneg _ om]
theorem qvV{n:Nat}(hn:n<=1000000000):qnI .u64 (n:Int) 4294967295=n:=by
 have e:IntKind.u64.bits=64:=rfl;unfold qnI;rw[e,BitVec.toNat_and,BitVec.toNat_ofInt,BitVec.toNat_ofInt];have e2:((n:Int)%((2^64:Nat):Int)).toNat=n:=by
  rw[show ((2^64:Nat):Int)=18446744073709551616 by rfl];omega
 have e3:((4294967295:Int)%((2^64:Nat):Int)).toNat=2^32-1:=by rfl
 rw[e2,e3,Nat.and_two_pow_sub_one_eq_mod,qej om om];omega
theorem qF1(n:Nat)(h:wh)(hn:n<=1000000000):ACalls Tryz.prog 218 [.int .u64 1,.int .u64 (n:Int)] h (.tup [.int .u64 0,.int .u64 (n:Int)]) h:=by
 have e0:qvM .u64 1 32=0:=by rw[qmB];rfl
 have e1:qvM .u64 (n:Int) 32=0:=by rw[qmB];omega
 have e2:qvM .u64 0 32=0:=by rw[qmB];rfl
 have e3:qnI .u64 1 4294967295=1:=by decide+kernel
 have e4:qnI .u64 0 4294967295=0:=by decide+kernel
 have e5:IntKind.u64.wrap 0=0:=by decide
 have e6:IntKind.u64.wrap (n:Int)=n:=qej om om;refine acO qyx ?_;simp (disch:=omega) only[qww,go_sem]
 repeat' first|(apply qh;exact rvk;simp only[go_sem])|with_reducible apply aiA|exact clz|fail
 have e7:=qvV hn;simp only[e0,e1,e2,e3,e4,e5,e6,e7,Int.zero_mul,Int.mul_zero,Int.one_mul,Int.add_zero];exact qi
theorem qE4(n:Nat)(h:wh)(hn:n<=1000000000):ACalls Tryz.prog 144 [.int .u64 1,.int .u64 (n:Int)] h (.tup [.int .u64 0,.int .u64 (n:Int)]) h:=by
 have c1:=λh=>qF1 n h hn
 refine acO qyd ?_;simp (disch:=omega) only[qwd,go_sem]
 repeat' first|(refine cA (c1 _) flk ?_;simp (disch:=omega) only[go_sem])|exact wc|with_reducible apply aiA|exact clz|fail
def rpC(a:Int)(n i:Nat):wi:=gC (λj=> .int .i64 (if j<i then a else 0)) n
theorem qlv(n:Nat):zM [.int .i64 0] n=rpC 0 n 0:=by
 refine List.ext_getElem? λk=> ?_
 obtain⟨h1,h2⟩:=UV [AV.int .i64 0] n
 by_cases hk:k<n
 ·unfold rpC;rw[qaL hk,ine (nnz _)]
  have:=h2 k (by simp;omega)
  rw[this,List.length_singleton,Nat.mod_one];rfl
 ·rw[List.getElem?_eq_none (by rw[h1];simp;omega),List.getElem?_eq_none (by unfold rpC;rw[fb];omega)]
theorem qas(a:Int)(n i:Nat):(rpC a n i).length=n:=by unfold rpC;rw[fb]
theorem qar{a:Int}{n i k:Nat}(hk:k<n):(rpC a n i)[k]? =some (.int .i64 (if k<i then a else 0)):=by unfold rpC;rw[qaL hk]
theorem qqa(a:Int){n i j:Nat}(hj:j<=i)(hi:i+j<=n):(rpC a n i).take i++(rpC a n i).take j++(rpC a n i).drop (i+j)=rpC a n (i+j):=by
 have hl:=qas a n i;have l1:((rpC a n i).take i).length=i:=by rw[List.length_take];omega
 have l2:((rpC a n i).take j).length=j:=by rw[List.length_take];omega
 refine List.ext_getElem? λk=> ?_
 by_cases hk:k<n
 ·rw[qar hk]
  by_cases g1:k<i
  ·rw[List.append_assoc,List.getElem?_append_left om,List.getElem?_take,ipo g1,qar hk,ipo g1,ipo om]
  ·rw[List.append_assoc,List.getElem?_append_right om,l1]
   by_cases g2:k-i<j
   ·rw[List.getElem?_append_left om,List.getElem?_take,ipo g2,qar om,ipo om,ipo om]
   ·rw[List.getElem?_append_right om,l2,List.getElem?_drop,show i+j+(k-i-j)=k by omega,qar hk,ine g1,ine om]
 ·rw[List.getElem?_eq_none (by simp only[lap,l1,l2,List.length_drop,hl];omega),List.getElem?_eq_none (by rw[qas];omega)]
theorem quH(a:Int){n:Nat}(hn:0<n):List.take 1 (qM [a])++List.drop 1 (rpC 0 n 0)=rpC a n 1:=by
 refine List.ext_getElem? λk=> ?_
 by_cases hk:k<n
 ·rw[qar hk];cases k with
  |zero=>rfl
  |succ k=>
   rw[List.getElem?_append_right (by simp[qM]),List.getElem?_drop];rw[show 1+(k+1-(List.take 1 (qM [a])).length)=k+1 by simp[qM];omega,qar hk,ine (nnz _),ine om]
 ·rw[List.getElem?_eq_none (by simp[qM,qas];omega),List.getElem?_eq_none (by rw[qas];omega)]
theorem quG(a:Int)(n:Nat):rpC a n n=qM (List.replicate n a):=by
 refine List.ext_getElem? λk=> ?_
 by_cases hk:k<n
 ·rw[qar hk,ipo hk];unfold qM;rw[List.getElem?_map,List.getElem?_replicate,ipo hk];rfl
 ·rw[List.getElem?_eq_none (by rw[qas];omega),List.getElem?_eq_none (by simp[qM];omega)]
theorem qGi(a:Int)(n:Nat)(h:wh)(k:Nat)(hk:qz h k=true)(h0:0<n)(hl:n<=1000000000):
  ACalls Tryz.prog 68 [qx [a],.int .i64 (n:Int)] h (.osl k (qo (qu k h)+1) 1 0 n) (qt k h (.mem (qo (qu k h)+1) 3 (qM (List.replicate n a)))):=by
 have s1:=λh=>qhf h [a]
 have c1:=λh=>qE4 n h hl
 have k1:((n:Int)<0)=False:=wl;have k2:((9223372036854775807:Int)<n)=False:=wl;have z1: ∀g,valL g .len [qx [a]]= .int .i64 1:=λ_=>rfl
 have z2: ∀g,okL g .len [qx [a]]=True:=λ_=>eqt trivial
 have e5:IntKind.u64.wrap 1=1:=by decide
 have e6:IntKind.u64.wrap (n:Int)=n:=qej om om;refine qfo qzJ k (by simp) ?_;simp only[lco,lnl,Nat.reduceAdd,Nat.reduceSub,List.replicate,lca,lna];simp (disch:=omega) only[qCD,z1,z2,k1,e5,e6,go_sem]
 repeat' first|(refine cA (c1 _) flk ?_;simp (disch:=omega) only[s1,k2,go_sem])|(with_reducible first|intro _|apply aiA)|exact clz|fail
 ·rw[qlv,qas];exact nlr _
 ·rfl
 have e8:min 1 n=1:=by omega
 rw[e8,qlv,quH a h0];refine qk (T:=λi:Nat=>qP 48 [(7,.osl (h.length+1) 1 1 0 n),(8,.int .i64 i)]) (H:=λi=>h++ [.emp 1,.mem 1 3 (rpC a n i)])
  (inv:=λi=>0<i∧i<=n) (m:=λi=>n-i) 1 ⟨Nat.one_pos,h0⟩ (Wk.temps ?_) ?_
 ·(simp only[go_sem,qf,qc,qa,qe];try exact we)
 rintro i ⟨i1,i2⟩ K hK;have hrl:=qas a n i
 by_cases hi:i<n
 ·have q1:((i:Int)<n)=True:=wj;have q2:(i<=n)=True:=eqt i2;simp (disch:=omega) only[q1,q2,hrl,Nat.sub_zero,Option.isSome_some,Option.getD_some,if_true,go_sem]
  repeat' first|with_reducible apply aiA|exact clz|fail
  ·rw[List.length_take,hrl];omega
  have e9:List.take (min i (n-i)) (List.take i (rpC a n i))=List.take (min i (n-i)) (rpC a n i):=by rw[List.take_take,show min (min i (n-i)) i=min i (n-i) by omega]
  rw[e9,qqa a om om];refine hK _ _ (i+min i (n-i)) ⟨om,om⟩ om (Wk.temps ?_)
  (simp only[Int.natCast_add,go_sem,qf,qc,qa,qe];try exact we)
 ·have q1:((i:Int)<n)=False:=wl;obtain rfl:i=n:=by omega
  simp (disch:=omega) only[q1,go_sem];rw[quG];exact⟨h.length+1,1,1,0,i,3,qM (List.replicate i a),_,⟨trivial,trivial⟩,rfl,rfl,om,by simp only[go_sem],λc hc=>by
   unfold qM at hc;obtain⟨z,_,rfl⟩:=List.mem_map.1 hc
   rfl,hk,rfl,rfl⟩
end RC
end
section
open Go Go.Proofs AF
def qpi:List Nat:= [69,68,71]
@[go_sem]def vA:DT:= DT.one ⟨some 78,none,.app 6 3 39 40,[.t 69,.t 77]⟩ (DT.one ⟨some 79,none,.len,[.t 78]⟩ DT.nil)
@[go_sem]def vJ:DT:= DT.one ⟨some 77,none,.bslc 5 3 1 39 [i6 0,i6 0,.nl] [(0,3)],[.t 76]⟩ vA
@[go_sem]def vq:DT:= DT.one ⟨some 76,none,.build [i6 0,i6 0,.nl] [(0,1),(1,1)],[.t 72,.t 75]⟩ vJ
@[go_sem]def vr:DT:= DT.one ⟨some 76,none,.build [i6 0,i6 0,.nl] [(0,1),(1,1)],[.t 72,.t 75]⟩ ((DT.one ⟨some 69,none,.call 71 false,[.t 68]⟩ vJ).two (DT.one ⟨some 77,none,.bslc 5 3 1 39 [i6 0,i6
 0,.nl] [(0,3)],[.t 76]⟩ (DT.one ⟨some 69,none,.call 71 false,[.t 68]⟩ vA)))
@[go_sem]def vB:DT:= DT.one ⟨some 75,none,.len,[.t 74]⟩ vq
@[go_sem]def vv:DT:= DT.one ⟨some 74,none,.load none,[.t 73]⟩ vB
@[go_sem]def vD:DT:= DT.one ⟨some 72,none,.len,[.t 71]⟩ (DT.one ⟨some 73,none,.fldA 3,[.t 4]⟩ vv)
@[go_sem]def vE:DT:= (DT.one ⟨some 69,none,.call 71 false,[.t 68]⟩ (DT.one ⟨some 72,none,.len,[.t 71]⟩ vq)).two (DT.one ⟨some 72,none,.len,[.t 71]⟩ vr)
@[go_sem]def vF:DT:= (DT.one ⟨some 69,none,.call 71 false,[.t 68]⟩ vB).two (DT.one ⟨some 75,none,.len,[.t 74]⟩ vr)
@[go_sem]def vu:DT:= (DT.one ⟨some 69,none,.call 71 false,[.t 68]⟩ (DT.one ⟨some 72,none,.len,[.t 71]⟩ vB)).two ((DT.one ⟨some 72,none,.len,[.t 71]⟩ vF).two (DT.one ⟨some 75,none,.len,[.t 74]⟩ vE))
@[go_sem]def vy:DT:= (DT.one ⟨some 69,none,.call 71 false,[.t 68]⟩ vv).two (DT.one ⟨some 74,none,.load none,[.t 73]⟩ vF)
@[go_sem]def vC:DT:= (DT.one ⟨some 69,none,.call 71 false,[.t 68]⟩ (DT.one ⟨some 72,none,.len,[.t 71]⟩ vv)).two ((DT.one ⟨some 72,none,.len,[.t 71]⟩ vy).two (DT.one ⟨some 74,none,.load none,[.t 73]⟩
 vu))
@[go_sem]def vG:DT:= DT.one ⟨some 71,none,.load none,[.t 70]⟩ (DT.one ⟨some 72,none,.len,[.t 71]⟩ vv)
@[go_sem]def vH:DT:= DT.one ⟨some 71,none,.load none,[.t 70]⟩ (DT.one ⟨some 72,none,.len,[.t 71]⟩ vB)
@[go_sem]def vI:DT:= DT.one ⟨some 71,none,.load none,[.t 70]⟩ (DT.one ⟨some 72,none,.len,[.t 71]⟩ vq)
@[go_sem]def vx:DT:= (DT.one ⟨some 69,none,.call 71 false,[.t 68]⟩ vI).two (DT.one ⟨some 71,none,.load none,[.t 70]⟩ vE)
@[go_sem]def vz:DT:= (DT.one ⟨some 69,none,.call 71 false,[.t 68]⟩ vH).two ((DT.one ⟨some 71,none,.load none,[.t 70]⟩ vu).two (DT.one ⟨some 75,none,.len,[.t 74]⟩ vx))
@[go_sem]def vt:DT:= (DT.one ⟨some 69,none,.call 71 false,[.t 68]⟩ vG).two ((DT.one ⟨some 71,none,.load none,[.t 70]⟩ vC).two (DT.one ⟨some 74,none,.load none,[.t 73]⟩ vz))
def qfj:C:=
 (vU [O1 4 (.box 0 26) 0,ON 8 (.nilo 1 7 133) [],vO 9 0] ((vU [O1 26 (.load (some 4)) 4,MV 27 1,O2 28 (.call 66 true) 26 27,MV 10 28] (vU [MV 29 10,vP 30 .neq 29 0] (vV 30 (vX
 [MV 31 10,ON 8 (.nilo 1 7 133) [],MV 9 31])))).seq ((vU [MV 32 3,vP 33 .lss 32 0,MV 34 33,vS 35 34 3,v7 36 34 1 4,v8 37 34 36,vQ 38 34 .len 37,vR 39 34 (.bin .geq) 35 38,PT 40
 34 39] (vV 40 (vX [ON 8 (.nilo 1 7 133) [],vO 9 2]))).seq (vU [O1 42 (.load (some 4)) 4,MV 43 1,MV 44 2,ON 45 (.call 67 true) [.t 42,.t 43,.t 44],MV 41 45,O1 46 (.ext 0) 41,O1
 47 (.ext 1) 41,MV 11 46,MV 12 47] ((vU [MV 48 12,vP 49 .neq 48 0] (vV 49 (vX [MV 50 12,ON 8 (.nilo 1 7 133) [],MV 9 50]))).seq (vU [⟨some 51,none,.bslc 2 1 1 3 [i6 0]
 [(0,1)],[.c (i6 (-1))]⟩,MV 52 1,O1 53 .len 52,O2 54 (.call 68 false) 51 53,MV 13 54] ((vU [MV 55 11,O1 56 .len 55,vO 57 0] (C.block 0 (vU [BI 58 .lss 57 56] ((vW 58 0).seq
 ((C.block 1 (vU [MV 59 57,O2 60 (.idxA 1) 55 57,LD 61 60,MV 14 59,MV 15 61] (vY [MV 62 13,MV 63 15,MV 64 14,O2 65 (.idxA 1) 62 63,ST 1 65 64]))).seq (vY [vP 66 .add 57 1,MV 57
 66])))).loop)).seq (vU [⟨some 16,none,.alloc 3 45 [.nl],[]⟩] ((C.wk.seq (vY [O1 67 (.mkfn (Fn.func 69) 0) 16,⟨some 17,none,.alloc 4 135 [.nilfn],[]⟩,ST 1 17 67])).seq (vU [vO
 18 0] (((C.draw (DT.one ⟨some 68,none,.mv,[.t 1]⟩ (DT.one ⟨some 80,none,.mv,[.c (i6 0)]⟩ ((DT.one ⟨some 69,none,.call 71 false,[.t 68]⟩ (DT.one ⟨some 70,none,.fldA 3,[.t 4]⟩
 (DT.one ⟨some 71,none,.load none,[.t 70]⟩ vD))).two ((DT.one ⟨some 70,none,.fldA 3,[.t 4]⟩ ((DT.one ⟨some 69,none,.call 71 false,[.t 68]⟩ (DT.one ⟨some 71,none,.load none,[.t
 70]⟩ vD)).two ((DT.one ⟨some 71,none,.load none,[.t 70]⟩ ((DT.one ⟨some 69,none,.call 71 false,[.t 68]⟩ vD).two ((DT.one ⟨some 72,none,.len,[.t 71]⟩ ((DT.one ⟨some
 69,none,.call 71 false,[.t 68]⟩ (DT.one ⟨some 73,none,.fldA 3,[.t 4]⟩ vv)).two (DT.one ⟨some 73,none,.fldA 3,[.t 4]⟩ vy))).two (DT.one ⟨some 73,none,.fldA 3,[.t 4]⟩ vC)))).two
 (DT.one ⟨some 73,none,.fldA 3,[.t 4]⟩ vt)))).two (DT.one ⟨some 73,none,.fldA 3,[.t 4]⟩ ((DT.one ⟨some 69,none,.call 71 false,[.t 68]⟩ (DT.one ⟨some 70,none,.fldA 3,[.t 4]⟩
 vG)).two ((DT.one ⟨some 70,none,.fldA 3,[.t 4]⟩ vt).two (DT.one ⟨some 74,none,.load none,[.t 73]⟩ ((DT.one ⟨some 69,none,.call 71 false,[.t 68]⟩ (DT.one ⟨some 70,none,.fldA
 3,[.t 4]⟩ vH)).two ((DT.one ⟨some 70,none,.fldA 3,[.t 4]⟩ vz).two (DT.one ⟨some 75,none,.len,[.t 74]⟩ ((DT.one ⟨some 69,none,.call 71 false,[.t 68]⟩ (DT.one ⟨some 70,none,.fldA
 3,[.t 4]⟩ vI)).two (DT.one ⟨some 70,none,.fldA 3,[.t 4]⟩ vx)))))))))))))).seq (C.block 2 (vU [BI 81 .lss 80 79] ((vW 81 2).seq ((C.block 3 (vU [MV 82 80,O2 83 (.idxA 3) 78
 80,O1 84 (.load (some 3)) 83,⟨some 19,none,.alloc 7 3 [i6 0],[]⟩,⟨some 20,none,.alloc 8 39 [i6 0,i6 0,.nl],[]⟩,ST 1 19 82,ST 3 20 84] ((vU [O1 85 (.load (some 4)) 4,MV 86 18,vN
 87 0 20,LD 88 87,MV 89 3,ON 90 (.call 72 true) [.t 85,.t 86,.t 88,.t 89]] (C.block 4 (C.range (.t 90) [91] (vY [⟨some 21,none,.alloc 9 131 [.str [],.str [],.str [],i6 0,i6
 0,.str [],i6 0],[]⟩,ST 7 21 91]) (C.block 5 (vY [LD 92 17,O1 93 (.load (some 7)) 21,ON 94 .callv [.t 92,.t 93,.c (i6 (-1)),.c (i6 (-1))]]))))).seq (vU [vN 95 1 20,LD 96 95,MV
 18 96] (C.block 6 (vU [LD 127 19,MV 128 1,O1 129 .len 128,BI 130 .eql 127 129,MV 126 130] (C.cond (.t 126) C.skip (vU [MV 132 13,LD 133 19,O2 134 (.idxA 1) 132 133,LD 135
 134,vP 136 .lss 135 0,MV 131 136] (C.cond (.t 131) (vU [O1 137 (.load (some 4)) 4,vN 138 0 20,LD 139 138,vN 140 1 20,LD 141 140,MV 142 3,ON 143 (.call 72 true) [.t 137,.t
 139,.t 141,.t 142]] (C.block 9 (C.range (.t 143) [144] (vY [⟨some 22,none,.alloc 10 131 [.str [],.str [],.str [],i6 0,i6 0,.str [],i6 0],[]⟩,ST 7 22 144]) (C.block 10 (vY [LD
 145 17,O1 146 (.load (some 7)) 22,LD 147 19,ON 148 .callv [.t 145,.t 146,.t 147,.c (i6 (-1))]]))))) (vU [MV 97 2,MV 98 13,LD 99 19,O2 100 (.idxA 1) 98 99,LD 101 100,O2 102
 (.idxA 4) 97 101,O1 103 (.load (some 4)) 102,⟨some 23,none,.alloc 11 65 [i6 0,.str [],i6 0,.str []],[]⟩,ST 4 23 103] ((C.draw (DT.uni ⟨some 104,none,.call 73 true,[]⟩ (DT.one
 ⟨some 105,none,.fldA 0,[.t 23]⟩ (DT.one ⟨some 106,none,.load none,[.t 105]⟩ (DT.one ⟨some 107,none,.aidx 4 1 none,[.t 104,.t 106]⟩ (DT.one ⟨some 108,none,.load (some 4),[.t 4]⟩
 (DT.one ⟨some 109,none,.load (some 3),[.t 20]⟩ (DT.one ⟨some 110,none,.load (some 4),[.t 23]⟩ (DT.uni ⟨some 111,none,.callv,[.t 107,.t 108,.t 109,.t 110]⟩ (DT.one ⟨some
 112,none,.len,[.t 111]⟩ (DT.one ⟨some 113,none,.mv,[.c (i6 0)]⟩ DT.nil))))))))))).seq (C.block 7 (vU [BI 114 .lss 113 112] ((vW 114 7).seq ((C.block 8 (vU [O2 115 (.idxA 7) 111
 113,O1 116 (.load (some 7)) 115,⟨some 25,none,.alloc 12 131 [.str [],.str [],.str [],i6 0,i6 0,.str [],i6 0],[]⟩,ST 7 25 116] (vY [LD 117 17,O1 118 (.load (some 7)) 25,LD 119
 19,MV 120 13,LD 121 19,O2 122 (.idxA 1) 120 121,LD 123 122,ON 124 .callv [.t 117,.t 118,.t 119,.t 123]]))).seq (vY [vP 125 .add 113 1,MV 113 125])))).loop)))))))))))).seq (vY
 [vP 149 .add 80 1,MV 80 149])))).loop)).seq ((vU [LD 150 16,O1 151 .len 150,vP 152 .gtr 151 1024] (vV 152 (vX [ON 8 (.nilo 1 7 133) [],vO 9 4]))).seq (vX [LD 153 16,MV 8 153,vO
 9 0])))))))))))))
theorem qan:qG Tryz.prog 17 154 16 [RV.tmp 8,RV.tmp 9] qfj:=fi Tryz.f17 [4,8,51,16,17,77,78,19,20,21,22,23,25,54,69,10] qpi [16]
end
