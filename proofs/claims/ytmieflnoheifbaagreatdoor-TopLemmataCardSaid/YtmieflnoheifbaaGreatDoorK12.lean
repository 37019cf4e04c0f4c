import Derived.Test.YtmieflnoheifbaaGreatDoorK11
import Derived.Test.YtmieflnoheifbaaGreatDoorK9
import Derived.Test.YtmieflnoheifbaaGreatDoorK3
import Derived.Test.YtmieflnoheifbaaGreatDoorK5
import Derived.Test.YtmieflnoheifbaaGreatDoorK8
import Derived.Test.YtmieflnoheifbaaGreatDoorProg
import Derived.Test.YtmieflnoheifbaaGreatDoorK10
import Derived.Test.YtmieflnoheifbaaGreatDoorK7
set_option linter.all false
set_option maxHeartbeats 256000000
set_option maxRecDepth 100000
section
open Go Go.Proofs AF HY LN
namespace RC
section
variable {x : Co} {k s : Nat}
theorem qBY(h:we)(ho:CoOk x)(hk:k<x.col.length)(hs:s<x.sig.length):ACalls Tryz.prog 215 [.agg (coC x),.int .i64 (k:Int),.int .i64 (s:Int)] h (.tup [.str ((clT x k s).getD []),.bool (clT x k s).isSome]) h:=by
 have hcl:=ho.cl k hk;have hce:=ho.ce k hk s hs;have htn:=ho.tn;unfold clT;obtain⟨c,hc⟩:=wc (x.col.getD k [])
 have ec:=hc.symm;rw[ec]at hcl hce ⊢;obtain⟨t,ht⟩:=wc (c.getD s 0)
 have et:=ht.symm;rw[et]at hce ⊢;obtain⟨l,hl⟩:=wc (x.tok.getD s [])
 have el:=hl.symm;rw[el]at hce ⊢;have k0:(0<=(k:Int))=True:=wh;have k1:((k:Int)<x.col.length)=True:=wh;have k2:((s:Int)<c.length)=True:=wh;have k3:((s:Int)<x.tok.length)=True:=wh;have k4:(0<=(s:Int))=True:=wh
 by_cases g:t<0
 ·have k5:(t<0)=True:=eqt g;rw[ipo g];refine acO qrK ?_;simp (disch:=omega) only[qsR,coC,qw,qP,k0,k1,k2,k4,k5,ec,et,go_sem]
  repeat' first|exact v7|with_reducible apply aiA|exact clz|fail
 ·have k5:(t<0)=False:=eqf g;rw[ine g];have k6:(t<l.length)=True:=eqt (by rcases hce with e|e;omega;omega);have k7:(0<=t)=True:=wh;obtain⟨w,hw⟩:=wc (l.getD t.toNat default)
  have ew:=hw.symm;rw[ew];refine acO qrK ?_;simp (disch:=omega) only[qsR,coC,qw,qP,qp,ja,tkC,k0,k1,k2,k3,k4,k5,k6,k7,ec,et,el,ew,go_sem]
  repeat' first|exact v7|with_reducible apply aiA|exact clz|fail
theorem cmP(h:we)(ho:CoOk x)(hk:k<x.col.length):ACalls Tryz.prog 140 [.agg (coC x),.int .i64 (k:Int)] h (.bool (cmB x k)) h:=by
 have hsg:=ho.sg;obtain⟨R,hR⟩:=wc (cmB x k)
 rw[<-hR];unfold cmB at hR;have c0:=λh=>qBY (x:=x) (k:=k) (s:=0) h ho hk hsg.1
 obtain⟨o0,ho0⟩:=wc (clT x k 0)
 rw[<-ho0]at hR c0;have ez:((0:Nat):Int)=0:=rfl;rw[ez]at c0;have zl: ∀g,valL g .len [strs x.sig]= .int .i64 x.sig.length:=λ_=>rfl
 have zo: ∀g,okL g .len [strs x.sig]=True:=λ_=>eqt trivial
 unfold coC at c0;refine acO qx3 ?_;simp (disch:=omega) only[qwu,coC,go_sem]
 repeat' first|(refine cA (c0 _) flk ?_;simp (disch:=omega) only[zl,zo,go_sem])|with_reducible apply aiA|exact clz|fail
 refine qt (T:=λi:Nat=>zg 41 [(1,.int .i64 (k:Int)),(2,.op h.length 1 0),(5,.str (o0.getD [])),(6,.bool o0.isSome),(18,.int .i64 x.sig.length),(19,.int .i64 i)]) (H:=λ_=>h++ [.mem 1 26 (coC x)])
  (inv:=λi=>i<=x.sig.length∧ ∀j,j<i->(decide (clT x k j=none)|| !decide (clT x k j=o0))=false) (m:=λi=>x.sig.length-i) 0 ⟨nzl _,λj hj=>absurd hj (nnz j)⟩ (Wk.temps ?_) ?_
 ·(simp only[go_sem,qh,qf,qb,qg];try exact wa)
 rintro i ⟨i1,i2⟩ K hK
 by_cases hi:i<x.sig.length
 ·have k1:((i:Int)<x.sig.length)=True:=wh;have c1:=λh=>qBY (x:=x) (k:=k) (s:=i) h ho hk hi
  have hno:(decide (clT x k i=none)|| !decide (clT x k i=o0))=true->R=false:=λhx=>by rw[hR,qZ.2 ⟨i,hi,hx⟩];rfl
  have hS:(decide (clT x k i=none)|| !decide (clT x k i=o0))=false-> ∀j,j<i+1->(decide (clT x k j=none)|| !decide (clT x k j=o0))=false:=λhx j hj=>by
   by_cases e:j=i
   ·subst e;exact hx
   ·exact i2 j om
  obtain⟨o,hox⟩:=wc (clT x k i)
  rw[<-hox]at hno hS;rw[<-hox]at c1;unfold coC at c1;cases o0 with
  |none=>
   have hV:R=false:=hno (by cases o<;>simp);rw[hV];simp (disch:=omega) only[coC,k1,Option.isSome_none,Option.getD_none,go_sem]
   repeat' first|(refine cA (c1 _) flk ?_;simp (disch:=omega) only[go_sem])|exact v7|with_reducible apply aiA|exact clz|fail
  |some w0=>
  cases o with
  |none=>
   rw[hno rfl];simp (disch:=omega) only[coC,k1,Option.isSome_some,Option.getD_some,go_sem]
   repeat' first|(refine cA (c1 _) flk ?_;simp (disch:=omega) only[Option.isSome_none,Option.getD_none,Option.getD_some,go_sem])|exact v7|with_reducible apply aiA|exact clz|fail
  |some w=>
  by_cases g:w=w0
  ·have q1:(w=w0)=True:=eqt g;simp (disch:=omega) only[coC,k1,Option.isSome_some,Option.getD_some,go_sem]
   repeat' first|(refine cA (c1 _) flk ?_;simp (disch:=omega) only[q1,Option.isSome_some,Option.getD_some,go_sem])|with_reducible apply aiA|exact clz|fail
   refine hK _ _ (i+1) ⟨hi,hS (by rw[g];simp)⟩ om (Wk.temps ?_)
   (simp only[go_sem,qh,qf,qb,qg];try exact wa)
  ·have q1:(w=w0)=False:=eqf g;rw[hno (by simp[g])];simp (disch:=omega) only[coC,k1,Option.isSome_some,Option.getD_some,go_sem]
   repeat' first|(refine cA (c1 _) flk ?_;simp (disch:=omega) only[q1,Option.isSome_some,Option.getD_some,go_sem])|exact v7|with_reducible apply aiA|exact clz|fail
 ·have k1:((i:Int)<x.sig.length)=False:=wi;have hV:R=true:=by rw[hR,qu.2 λj hj=>i2 j om];rfl
  rw[hV];simp (disch:=omega) only[coC,k1,go_sem]
  repeat' first|exact v7|fail
end
theorem rdP(x:Co)(f t s:Nat)(h:we)(ho:CoOk x)(ht:t<=x.col.length)(hs:s<x.sig.length)(hn:x.col.length<=1000000000):ACalls Tryz.prog 141 [.agg (coC x),.int .i64 (f:Int),.int .i64 (t:Int),.int .i64 (s:Int)] h (strs (rdG x s f (t-f))) h:=by
 refine acO qx4 ?_;simp (disch:=omega) only[qwv,coC,go_sem];refine qt (T:=λi:Nat×Nat×AObj=>zg 32 [(2,.int .i64 (t:Int)),(3,.int .i64 (s:Int)),(4,.op h.length 1 0),(9,.osl (h.length+2) i.2.1 1 0 (rdG x s f i.1).length),(10,.int .i64 ((f+i.1:Nat):Int))])
  (H:=λi=>h++ [.mem 1 26 (coC x),.emp 1,zw i.2.1 9 (jH (rdG x s f i.1)),i.2.2,.emp 0])
  (inv:=λi=>i.1<=t-f∧qH [i.2.2] 0=true) (m:=λi=>t-f-i.1) (0,1,.emp 0) ⟨nzl _,rfl⟩ (Wk.temps ?_) ?_
 ·(simp only[rdG,lnl,Nat.add_zero,go_sem,qh,qf,qb,qg];try exact wa)
 rintro⟨d,v,O⟩ ⟨i1,i2⟩ K hK;simp only at i1 i2 hK;have i2': ∀m,qH (O::m) 0=true:=λ_=>i2
 have hln:=qdJ x s f d;have hst:rdG x s f (d+1)=rdG x s f d++(clT x (f+d) s).toList:=rfl;obtain⟨L,hL⟩:=wc (rdG x s f d)
 rw[<-hL]at hln hst;have eL:=hL.symm;have eC:=cV L
 by_cases hi:f+d<t
 ·have k1:(((f+d:Nat):Int)<t)=True:=wh;have c1:=λh=>qBY (x:=x) (k:=f+d) (s:=s) h ho om hs
  obtain⟨o,hox⟩:=wc (clT x (f+d) s)
  rw[<-hox]at hst c1;unfold coC at c1;have eTk:List.take L.length (jH L)=jH L:=ltl om;cases o with
  |none=>
   have hst:rdG x s f (d+1)=L:=by rw[hst];simp
   simp (disch:=omega) only[coC,k1,eL,go_sem]
   repeat' first|(refine cA (c1 _) flk ?_;simp (disch:=omega) only[i2',Option.isSome_none,Option.getD_none,go_sem])|with_reducible apply aiA|exact clz|fail
   refine hK _ _ (d+1,v,O) ⟨om,i2⟩ (by simp only;omega) ?_;simp only[hst];refine Wk.temps ?_
   (simp only[go_sem,qh,qf,qb,qg];try exact wa)
  |some w=>
   have hst:rdG x s f (d+1)=L++ [w]:=hst;simp (disch:=omega) only[coC,k1,eL,Option.isSome_some,Option.getD_some,go_sem]
   repeat' first|(refine cA (c1 _) flk ?_;simp (disch:=omega) only[i2',eC,eTk,Nat.mul_one,Option.isSome_some,Option.getD_some,go_sem])|with_reducible apply aiA|exact clz|fail
   have eA:jH L++ [AV.str w]=jH (rdG x s f (d+1)):=by rw[hst,qqY];rfl
   try rw[eA]
   refine hK _ _ (d+1,v+1,.mem (qo (some O)+1) 9 [.str w]) ⟨om,rfl⟩ (by simp only;omega) ?_;simp only[hst,lap,lco,lnl];refine Wk.temps ?_
   (simp only[go_sem,qh,qf,qb,qg];try exact wa)
 ·have k1:(((f+d:Nat):Int)<t)=False:=wi;obtain rfl:d=t-f:=by omega
  rw[eL];simp (disch:=omega) only[k1,go_sem]
  repeat' first|(apply qa;exact rvk;simp only[go_sem])
  exact qdP (λ_=>rfl) rfl
def rnX(x:Co):List wg:=(qc4 (cmB x) x.col.length).map λr=> [.int .i64 (r.1:Int),.int .i64 (r.2:Int)]
theorem qDV(x:Co)(h:we):ACalls Tryz.prog 62 [.agg (coC x)] h (.fn (.func 139) [] [.ip (coC x)]) h:=by
 unfold coC;refine acO qCq ?_;simp (disch:=omega) only[qDC,go_sem]
 repeat' first|exact v7|fail
theorem qEP(u:Un)(f t:Int)(h:we):ACalls Tryz.prog 226 [.agg (unC u),.ip [.int .i64 f],.ip [.int .i64 t]] h (.bool (decide (u.frm<=f)&&decide (t<=u.to))) h:=by
 by_cases g:u.frm<=f
 ·have k1:(u.frm<=f)=True:=eqt g;rw[dqt g,Bool.true_and];refine acO qrM ?_;simp (disch:=omega) only[qsT,unC,k1,go_sem]
  repeat' first|exact v7|with_reducible apply aiA|exact clz|fail
 ·have k1:(u.frm<=f)=False:=eqf g;rw[dqf g,Bool.false_and];refine acO qrM ?_;simp (disch:=omega) only[qsT,unC,k1,go_sem]
  repeat' first|exact v7|with_reducible apply aiA|exact clz|fail
theorem qzN{p:Nat->Bool}{n f t:Nat}(h1:f<=t)(h2:t<=n)(h3: ∀j,f<=j->j<t->p j=false)(h4:t<n->p t=true):nxt p (n-f) f=t:=by
 obtain⟨a1,a2,a3,a4⟩:=qgF p (n-f) f;rcases Nat.lt_trichotomy (nxt p (n-f) f) t with h|h|h
 ·have:=a4 om
  rw[h3 _ a1 h]at this;cases this
 ·exact h
 ·have:=h4 om
  rw[a3 t h1 h]at this;cases this
theorem qAg{x:Co}{pre rest:List (Nat×Nat)}{r:Nat×Nat}(h:qc4 (cmB x) x.col.length=pre++r::rest): ∃g:pre.length<(rnX x).length,(rnX x)[pre.length]= [.int .i64 (r.1:Int),.int .i64 (r.2:Int)]:=by
 unfold rnX;refine⟨by rw[h];simp,?_⟩;simp only[h,List.getElem_map];rw[List.getElem_append_right (nlr _)];simp
structure RnS where
 f:Nat
 D:Nat
 pre:List (Nat×Nat)
 hh:we
theorem itR(x:Co)(ho:CoOk x)(hn:x.col.length<=1000000000):qi8 Tryz.prog 139 [.ip (coC x)] (rnX x):=by
 intro h ts LI S E hS hE body start hts;have hcom:=λk h hk=>cmP (x:=x) (k:=k) h ho hk
 obtain⟨p,hp⟩:=wc (cmB x)
 have hxl:(rnX x).length=(qc4 p x.col.length).length:=by rw[hp];simp[rnX]
 have hat:= @qAg x;rw[<-hp]at hat;rw[<-hp]at hcom;refine acQ qx2 ?_;simp (disch:=omega) only[qwt,coC,go_sem];refine qt (T:=λi:RnS=>zg 36 [(0,.yld h.length),(1,.ip (coC x)),(3,.int .i64 i.f)]) (H:=λi=>i.hh++ [.lp .ready ts LI])
  (inv:=λi=>i.f<=x.col.length+1∧x.col.length-i.f<i.D∧qc4 p x.col.length=i.pre++kB p x.col.length i.D i.f∧S i.pre.length i.hh) (m:=λi=>x.col.length+1-i.f) ⟨0,x.col.length+1,[],h⟩ ⟨nzl _,by simp only;omega,rfl,start⟩ (Wk.temps ?_) ?_
 ·(simp only[coC,go_sem,qh,qf,qg];try exact wa)
 rintro⟨f,D,pre,hh⟩ ⟨i1,i2,i3,i4⟩ K hK;simp only at i1 i2 i3 i4 hK;obtain⟨hlen,hlow⟩:=hS _ _ i4;have hb:(h++ [AObj.lp LS.ready ts LI]).length=(hh++ [AObj.lp LS.ready ts LI]).length:=by simp[hlen]
 by_cases hi:f<x.col.length
 ·have q0:((f:Int)<x.col.length)=True:=wh;obtain⟨D',rfl⟩: ∃D',D=D'+1:=⟨D-1,om⟩
  have hD:kB p x.col.length (D'+1) f=(if f<nxt p (x.col.length-f) f then [(f,nxt p (x.col.length-f) f)] else [])++kB p x.col.length D' (nxt p (x.col.length-f) f+1):=by
   conv=>lhs;unfold kB
   rw[ine om]
  simp (disch:=omega) only[coC,qw,q0,go_sem]
  repeat' first|with_reducible apply aiA|exact clz|fail
  refine qt (T:=λt:Nat=>zg 36 [(0,.yld h.length),(1,.ip (coC x)),(3,.int .i64 f),(4,.int .i64 t)]) (H:=λ_=>hh++ [.lp .ready ts LI])
   (inv:=λt=>f<=t∧t<=x.col.length∧ ∀j,f<=j->j<t->p j=false) (m:=λt=>x.col.length-t) f ⟨nlr _,om,λj h1 h2=>by omega⟩ (Wk.temps ?_) ?_
  ·(simp only[coC,go_sem,qh,qf,qb,qg];try exact wa)
  rintro t ⟨t1,t2,t3⟩ K2 hK2;have fin:(t<x.col.length->p t=true)->kB p x.col.length (D'+1) f=(if f<t then [(f,t)] else [])++kB p x.col.length D' (t+1):=λh4=>by
   rw[hD,qzN t1 t2 t3 h4]
  have hend: ∀hh',kB p x.col.length (D'+1) f=(if f<t then [(f,t)] else [])++kB p x.col.length D' (t+1)->S (pre++if f<t then [(f,t)] else []).length hh'->qc4 p x.col.length=(pre++if f<t then [(f,t)] else [])++kB p x.col.length D' (t+1):=λhh' h1 _=>by
   rw[i3,h1,List.append_assoc]
  by_cases ht:t<x.col.length
  ·have q1:((t:Int)<x.col.length)=True:=wh;have c1:=λh=>hcom t h ht
   cases hpt:p t with
   |false=>
    rw[hpt]at c1;unfold coC qw at c1;simp (disch:=omega) only[coC,qw,q1,go_sem]
    repeat' first|(refine cG (λe=>c1 _) flk ?_;simp (disch:=omega) only[go_sem])|with_reducible apply aiA|exact clz|fail
    refine hK2 _ _ (t+1) ⟨om,ht,λj h1 h2=> ?_⟩ om (Wk.temps ?_)
    ·by_cases e:j=t
     ·subst e;exact hpt
     ·exact t3 j h1 om
    ·(simp only[coC,go_sem,qh,qf,qb,qg];try exact wa)
   |true=>
    rw[hpt]at c1;have hf:=fin λ_=>hpt
    unfold coC qw at c1
    by_cases gt:f<t
    ·have q2:((f:Int)<t)=True:=wh;rw[ipo gt]at hf;rw[hf]at i3;obtain⟨hdl,hxx⟩:=hat (pre:=pre) (r:=(f,t)) (rest:=kB p x.col.length D' (t+1)) i3;have hb':=body pre.length hh [] hdl i4;rw[hxx]at hb';have i5:qc4 p x.col.length=(pre++ [(f,t)])++kB p x.col.length D' (t+1):=by rw[i3];simp
     simp (disch:=omega) only[coC,qw,q1,go_sem]
     repeat' first|(refine cG (λe=>c1 _) flk ?_;simp (disch:=omega) only[q2,go_sem])|with_reducible apply aiA|exact clz|fail
     ·exact⟨.ready,ts,LI,jW hlen⟩
     ·refine jD.mono ?_ hb';rintro v h' ⟨hh',⟨rfl,hn',rfl⟩|⟨st,rfl,hs',rfl⟩⟩
      ·simp (disch:=omega) only[go_sem];refine hK _ _ ⟨t+1,D',pre++ [(f,t)],hh'⟩ ⟨by simp only;omega,by simp only;omega,i5,by simp only[lap,lco,lnl];exact hn'⟩ (by simp only;omega) (Wk.temps ?_)
       (simp only[coC,go_sem,qh,qf,qb,qg];try exact wa)
      ·simp (disch:=omega) only[go_sem];obtain⟨r1,r2⟩:=(hE _ _ hs').ret (L:=LI) st hts;exact zQ trivial r1 r2 ⟨_,.inr ⟨st,hs',rfl⟩⟩ (qi)
    ·have q2:((f:Int)<t)=False:=wi;rw[ine gt,lna]at hf;rw[hf]at i3;simp (disch:=omega) only[coC,qw,q1,go_sem]
     repeat' first|(refine cG (λe=>c1 _) flk ?_;simp (disch:=omega) only[q2,go_sem])|with_reducible apply aiA|exact clz|fail
     refine hK _ _ ⟨t+1,D',pre,hh⟩ ⟨by simp only;omega,by simp only;omega,i3,i4⟩ (by simp only;omega) (Wk.temps ?_)
     (simp only[coC,go_sem,qh,qf,qb,qg];try exact wa)
  ·have q1:((t:Int)<x.col.length)=False:=wi;have hf:=fin λhx=>absurd hx ht
   by_cases gt:f<t
   ·have q2:((f:Int)<t)=True:=wh;rw[ipo gt]at hf;rw[hf]at i3;obtain⟨hdl,hxx⟩:=hat (pre:=pre) (r:=(f,t)) (rest:=kB p x.col.length D' (t+1)) i3;have hb':=body pre.length hh [] hdl i4;rw[hxx]at hb';have i5:qc4 p x.col.length=(pre++ [(f,t)])++kB p x.col.length D' (t+1):=by rw[i3];simp
    simp (disch:=omega) only[coC,qw,q1,go_sem]
    repeat' first|(refine ql ( .bool false) ?_;simp (disch:=omega) only[q2,go_sem])|with_reducible apply aiA|exact clz|fail
    ·exact⟨.ready,ts,LI,jW hlen⟩
    ·refine jD.mono ?_ hb';rintro v h' ⟨hh',⟨rfl,hn',rfl⟩|⟨st,rfl,hs',rfl⟩⟩
     ·simp (disch:=omega) only[go_sem];refine hK _ _ ⟨t+1,D',pre++ [(f,t)],hh'⟩ ⟨by simp only;omega,by simp only;omega,i5,by simp only[lap,lco,lnl];exact hn'⟩ (by simp only;omega) (Wk.temps ?_)
      (simp only[coC,go_sem,qh,qf,qb,qg];try exact wa)
     ·simp (disch:=omega) only[go_sem];obtain⟨r1,r2⟩:=(hE _ _ hs').ret (L:=LI) st hts;exact zQ trivial r1 r2 ⟨_,.inr ⟨st,hs',rfl⟩⟩ (qi)
   ·exact absurd (show f<t by omega) gt
 ·have q0:((f:Int)<x.col.length)=False:=wi;have hD:kB p x.col.length D f= []:=by
   cases D with
   |zero=>rfl
   |succ D=>unfold kB;rw[ipo om]
  rw[hD,lan]at i3;simp (disch:=omega) only[coC,qw,q0,go_sem]
  repeat' first|with_reducible apply aiA|exact clz|fail
  obtain⟨r1,r2⟩:=(hS _ _ i4).ret (L:=LI) .ready hts;exact zQ trivial r1 r2 ⟨hh,.inl ⟨by rw[hxl,i3];exact i4,rfl⟩⟩ (qi)
structure qoa (l:List Un):Prop where
 n:l.length<=1000000000
 rd: ∀i,(l.getD i default).rds.length<=1000000000
 sr: ∀i j,((l.getD i default).rds.getD j default).src.length<=1000000000
 wd: ∀i j,((l.getD i default).rds.getD j default).words.length<=1000000000
structure qru (L:List Rd):Prop where
 n:L.length<=1000000000
 sr: ∀j,(L.getD j default).src.length<=1000000000
 wd: ∀j,(L.getD j default).words.length<=1000000000
theorem qDN(a b:List Str)(h:we)(h1:a.length<=1000000000)(h2:b.length<=1000000000):ACalls Tryz.prog 18 [strs a,strs b] h (.bool (decide (a=b))) h:=by
 have c:=qCa a b.length (λj=>b.getD j []) h h1 h2;have e:decide (a.length=b.length∧ ∀i,i<a.length->a.getD i []=b.getD i [])=decide (a=b):=decide_eq_decide.2 (UY ([]:Str)).symm;rw[e]at c;exact c
theorem qEl(a b:List Int)(h:we)(h1:a.length<=1000000000)(h2:b.length<=1000000000):ACalls Tryz.prog 30 [qP a,qP b] h (.bool (decide (a=b))) h:=by
 have c:=qDM qCi a.length b.length (λj=> .i (a.getD j 0)) (λj=> .i (b.getD j 0)) h (λ_ _ _=>rfl) om om;simp only[At.v,At.i.injEq]at c;have e:decide (a.length=b.length∧ ∀i,i<a.length->a.getD i 0=b.getD i 0)=decide (a=b):=decide_eq_decide.2 (UY (0:Int)).symm;rw[e]at c;exact c
theorem qCX{r s:Rd}:r=s↔r.words=s.words∧r.src=s.src:=by
 cases r;cases s;simp
theorem qEV(r s:Rd)(h:we)(h1:r.words.length<=1000000000)(h2:s.words.length<=1000000000)(h3:r.src.length<=1000000000)(h4:s.src.length<=1000000000):ACalls Tryz.prog 292 [.agg (rdC r),.agg (rdC s)] h (.bool (decide (r=s))) h:=by
 have c1:=λh=>qDN r.words s.words h h1 h2
 have c2:=λh=>qEl r.src s.src h h3 h4
 have e:decide (r=s)=(decide (r.words=s.words)&&decide (r.src=s.src)):=by rw[<-Bool.decide_and];exact decide_eq_decide.2 qCX
 rw[e];obtain⟨a,ha⟩:=wc (decide (r.words=s.words))
 obtain⟨b,hb⟩:=wc (decide (r.src=s.src))
 rw[<-ha,<-hb];simp only[<-ha]at c1;simp only[<-hb]at c2;cases a with
 |true=>
  rw[Bool.true_and];refine acO qrT ?_;simp (disch:=omega) only[qsZ,rdC,go_sem]
  repeat' first|((first|refine cA (c1 _) ?_ ?_|refine cG (λe=>c2 _) ?_ ?_);exact flk;simp (disch:=omega) only[go_sem])|exact v7|with_reducible apply aiA|exact clz|fail
 |false=>
  rw[Bool.false_and];refine acO qrT ?_;simp (disch:=omega) only[qsZ,rdC,go_sem]
  repeat' first|(refine ql ( .bool false) ?_;simp (disch:=omega) only[go_sem])|(refine cA (c1 _) flk ?_;simp (disch:=omega) only[go_sem])|exact v7|fail
theorem efP(a b:List Rd)(h:we)(za:qru a)(zb:qru b):ACalls Tryz.prog 291 [ky a,ky b,.fn (.func 292) [] []] h (.bool (decide (a=b))) h:=by
 have ha:=za.n;have hb:=zb.n;have he:decide (a=b)=decide (a.length=b.length∧ ∀i,i<a.length->a.getD i default=b.getD i default):=decide_eq_decide.2 (UY (default:Rd));obtain⟨R,hR⟩:=wc (decide (a=b))
 rw[<-hR]at he ⊢
 by_cases g:a.length=b.length
 case neg=>
  have k1:((a.length:Int)=b.length)=False:=wi;rw[dqf (λhc=>g hc.1)]at he;rw[he];refine acO qrS ?_;simp (disch:=omega) only[qsY,ky,k1,go_sem]
  repeat' first|exact v7|fail
 have k1:((a.length:Int)=b.length)=True:=wh;refine acO qrS ?_;simp (disch:=omega) only[qsY,ky,k1,go_sem];refine qt (T:=λi:Nat×AObj×AObj=>zg 32 [(1,ky b),(2,.fn (.func 292) [] []),(15,ky a),(16,.int .i64 a.length),(17,.int .i64 i.1)]) (H:=λi=>h++ [i.2.1,i.2.2])
  (inv:=λi=>i.1<=a.length∧qH [i.2.1] 0=true∧qH [i.2.2] 0=true∧ ∀j,j<i.1->a.getD j default=b.getD j default) (m:=λi=>a.length-i.1) (0,.emp 0,.emp 0) ⟨nzl _,rfl,rfl,λj hj=>absurd hj (nnz j)⟩ (Wk.temps ?_) ?_
 ·(simp only[ky,go_sem,qh,qf,qb,qg];try exact wa)
 rintro⟨i,O1,O2⟩ ⟨i1,j1,j2,i2⟩ K hK;simp only at i1 j1 j2 i2 hK;have j1': ∀m,qH (O1::m) 0=true:=λ_=>j1
 have j2': ∀m,qH (O2::m) 0=true:=λ_=>j2
 by_cases hi:i<a.length
 ·have k2:((i:Int)<a.length)=True:=wh;have k3:((i:Int)<b.length)=True:=wh;have c1:=λh=>qEV (a.getD i default) (b.getD i default) h (za.wd i) (zb.wd i) (za.sr i) (zb.sr i)
  have hno: ¬a.getD i default=b.getD i default->R=false:=λhx=>by rw[he];exact dqf λhc=>hx (hc.2 i hi)
  have hS:a.getD i default=b.getD i default-> ∀j,j<i+1->a.getD j default=b.getD j default:=λhx j hj=>by
   by_cases e:j=i
   ·subst e;exact hx
   ·exact i2 j om
  obtain⟨r,hr⟩:=wc (a.getD i default)
  obtain⟨s,hs⟩:=wc (b.getD i default)
  have er:=hr.symm;have es:=hs.symm;rw[er,es]at hno hS;simp only[er,es]at c1;unfold rdC at c1
  by_cases g2:r=s
  ·have k4:decide (r=s)=true:=dqt g2;simp only[k4]at c1;simp (disch:=omega) only[ky,rdC,k2,k3,er,es,j1',j2',go_sem]
   repeat' first|(refine qF (c1 _) ?_;simp (disch:=omega) only[go_sem])|with_reducible apply aiA|exact clz|fail
   refine hK _ _ (i+1,_,_) ⟨hi,rfl,rfl,hS g2⟩ (by simp only;omega) (Wk.temps ?_)
   (simp only[ky,go_sem,qh,qf,qb,qg];try exact wa)
  ·have k4:decide (r=s)=false:=dqf g2;simp only[k4]at c1;rw[hno g2];simp (disch:=omega) only[ky,rdC,k2,k3,er,es,j1',j2',go_sem]
   repeat' first|(refine qF (c1 _) ?_;simp (disch:=omega) only[go_sem])|exact v7|with_reducible apply aiA|exact clz|fail
 ·have k2:((i:Int)<a.length)=False:=wi;rw[he,dqt ⟨g,λj hj=>i2 j om⟩];simp (disch:=omega) only[ky,k2,go_sem]
  repeat' first|exact v7|fail
theorem qEW(a b:List Rd)(h:we)(za:qru a)(zb:qru b):ACalls Tryz.prog 225 [ky a,ky b] h (.bool (decide (a=b))) h:=by
 have c1:=λh=>efP a b h za zb
 refine acO qyu ?_;simp (disch:=omega) only[qwU,go_sem]
 repeat' first|(refine cA (c1 _) flk ?_;simp (disch:=omega) only[go_sem])|exact v8|fail
theorem qEN(r s:Rd)(h:we)(h1:r.words.length<=1000000000)(h2:s.words.length<=1000000000):ACalls Tryz.prog 143 [.agg (rdC r),.agg (rdC s)] h (.bool (decide (r.words=s.words))) h:=by
 have c1:=λh=>qDN r.words s.words h h1 h2
 refine acO qx6 ?_;simp (disch:=omega) only[qwx,rdC,go_sem]
 repeat' first|(refine cA (c1 _) flk ?_;simp (disch:=omega) only[go_sem])|exact v7|fail
theorem fd1(r y:Rd)(h:we)(h1:r.words.length<=1000000000)(h2:y.words.length<=1000000000):ACalls Tryz.prog 216 [.agg (rdC y),.ip [.fn (.func 143) [] []],.ip (rdC r)] h (.bool (decide (r.words=y.words))) h:=by
 have c1:=λh=>qEN r y h h1 h2
 unfold rdC at c1;refine acO qyn ?_;simp (disch:=omega) only[qwN,rdC,go_sem]
 repeat' first|(refine qF (c1 _) ?_;simp (disch:=omega) only[go_sem])|exact v7|with_reducible apply aiA|exact clz|fail
theorem fdP(L:List Rd)(r:Rd)(h:we)(hL:L.length<=1000000000)(h1:r.words.length<=1000000000)(h2: ∀j,(L.getD j default).words.length<=1000000000):ACalls Tryz.prog 142 [ky L,.agg (rdC r),.fn (.func 143) [] []] h (.int .i64 (qi5 L r.words)) h:=by
 have c1: ∀k v k2 v2 H,qq k H=some (.mem v 152 (rdC r))->qq k2 H=some (.mem v2 218 [.fn (.func 143) [] []])->
   ACalls Tryz.prog 91 [ky L,.fn (.func 216) [] [.op k2 v2 0,.op k v 0]] H (.int .i64 (qi5 L r.words)) H:=λk v k2 v2 H hk hk2=>by
  have hc:=qQ hk;have hc2:=qQ hk2;unfold ky qi5;refine qex qCv L.length (λj=>rdC (L.getD j default)) (λj=> .agg (rdC (L.getD j default))) _ [] [.op k2 v2 0,.op k v 0] _ H (λi _=>⟨rfl,by simp[jZ,rdC],rfl,rfl,rfl⟩) (λi _=> ?_) om;refine ACalls.borrow ?_ rfl;have e:([AV.agg (rdC (L.getD i default))]++ [AV.op k2 v2 0,AV.op k v 0]).map (rei (λ_=>true) H 8)= [.agg (rdC (L.getD i default)),.ip [.fn (.func 143) [] []],.ip (rdC r)]:=by
   simp only[lca,lna,List.map_cons,List.map_nil,rei_op,if_true,hc,hc2,ipOf_some,List.drop_zero,rei_agg];rfl
  rw[lna,e];exact fd1 r _ _ h1 (h2 i)
 have c2:=c1 h.length 1 (h.length+1) 1 (h++ [.mem 1 152 (rdC r),.mem 1 218 [.fn (.func 143) [] []]]) (by rw[getO_app0];rfl) (by simp only[go_sem]);unfold rdC at c2;refine acO qx5 ?_;simp (disch:=omega) only[qww,rdC,go_sem]
 repeat' first|(refine cA (c2) flk ?_;simp (disch:=omega) only[go_sem])|exact v7|fail
def gnB(sec:Str)(sig:List Str):Bool:=jK (λi=>decide (20<(sig.getD i []).length)) sig.length||decide (20<sec.length)
theorem gnP(sec:Str)(sig:List Str)(h:we)(hn:sig.length<=9223372036854775807):ACalls Tryz.prog 59 [.str sec,strs sig] h (.bool (gnB sec sig)) h:=by
 obtain⟨R,hR⟩:=wc (gnB sec sig)
 rw[<-hR];unfold gnB at hR;refine acO qCp ?_;simp (disch:=omega) only[qDB,strs,go_sem];refine qt (T:=λi:Nat=>zg 21 [(0,.str sec),(1,strs sig),(5,.int .i64 i)]) (H:=λ_=>h) (inv:=λi=>i<=sig.length∧ ∀j,j<i->(λi=>decide (20<(sig.getD i []).length)) j=false) (m:=λi=>sig.length-i) 0 ⟨nzl _,λj hj=>absurd hj (nnz j)⟩ (Wk.temps ?_) ?_
 ·(simp only[strs,go_sem,qh,qf,qb,qg];try exact wa)
 rintro i ⟨i1,i2⟩ K hK
 by_cases hi:i<sig.length
 ·have k1:((i:Int)<sig.length)=True:=wh
  by_cases g:20<(sig.getD i []).length
  ·have hV:R=true:=by rw[hR,qZ.2 ⟨i,hi,dqt g⟩];rfl
   obtain⟨s,hs⟩:=wc (sig.getD i [])
   have es:=hs.symm;rw[es]at g;have k2:((20:Int)<s.length)=True:=wh;rw[hV];simp (disch:=omega) only[strs,k1,k2,es,go_sem]
   repeat' first|exact v8|with_reducible apply aiA|exact clz|fail
  ·have i3:=U6 i2 (dqf g);obtain⟨s,hs⟩:=wc (sig.getD i [])
   have es:=hs.symm;rw[es]at g;have k2:((20:Int)<s.length)=False:=wi;simp (disch:=omega) only[strs,k1,k2,es,go_sem]
   repeat' first|with_reducible apply aiA|exact clz|fail
   refine hK _ _ (i+1) ⟨hi,i3⟩ om (Wk.temps ?_)
   (simp only[strs,go_sem,qh,qf,qb,qg];try exact wa)
 have k1:((i:Int)<sig.length)=False:=wi;rw[qu.2 (λj hj=>i2 j om),Bool.false_or]at hR;have e1:decide ((20:Int)<sec.length)=decide (20<sec.length):=decide_eq_decide.2 om;rw[hR,<-e1];simp (disch:=omega) only[strs,k1,go_sem]
 repeat' first|exact v8|fail
def qa8(t:Tk):Bool:=decide (12<t.text.length)||(decide (12<t.norm.length)||(decide (20<t.page.length)||decide (20<t.name.length)))
def qcr(i:Nat)(r:List Tk):Bool:=decide (6<r.length)||((decide (4<=i)&&decide (1<r.length))||jK (λk=>qa8 (r.getD k default)) r.length)
def prN(L:List (List Tk)):Nat->Nat
 |0=>1
 |i+1=>if i<4 then prN L i*((L.getD i []).length+1) else prN L i
def gtB(L:List (List Tk)):Bool:=jK (λi=>qcr i (L.getD i [])) L.length||(decide (400<prN L L.length)||((decide (6<L.length)&&decide (L.length<=32))||decide (34<L.length)))
theorem qz2{L:List (List Tk)}: ∀ {n:Nat},(∀i,i<n->(L.getD i []).length<=6)->prN L n<=7^min n 4:=by
 intro n
 induction n with
 |zero=>intro _;exact nlr _
 |succ n ih=>
  intro h;have h1:=ih λi hi=>h i om
  have h2:=h n om;unfold prN;split
  ·rename_i g;rw[show min n 4=n by omega]at h1;rw[show min (n+1) 4=n+1 by omega,Nat.pow_succ];exact Nat.mul_le_mul h1 om
  ·rename_i g;rw[show min n 4=4 by omega]at h1;rw[show min (n+1) 4=4 by omega];exact h1
theorem gtP(L:List (List Tk))(h:we)(hn:L.length<=9223372036854775807):ACalls Tryz.prog 58 [qp L] h (.bool (gtB L)) h:=by
 obtain⟨R,hR⟩:=wc (gtB L)
 rw[<-hR];unfold gtB at hR;refine acO qCo ?_;simp (disch:=omega) only[qDA,qp,go_sem];refine qt (T:=λi:Nat×AObj=>zg 97 [(0,qp L),(3,.int .i64 (prN L i.1:Int)),(4,.int .i64 i.1)]) (H:=λi=>h++ [i.2]) (inv:=λi=>i.1<=L.length∧qH [i.2] 0=true∧ ∀j,j<i.1->(λi=>qcr i (L.getD i [])) j=false) (m:=λi=>L.length-i.1) (0,.emp 0) ⟨nzl _,rfl,λj hj=>absurd hj (nnz j)⟩ (Wk.temps ?_) ?_
 ·(simp only[qp,prN,go_sem,qh,qf,qb,qg];try exact wa)
 rintro⟨i,O⟩ ⟨i1,i2,i3⟩ K hK;simp only at i1 i2 i3 hK;have i2': ∀m,qH (O::m) 0=true:=λ_=>i2
 have h6: ∀j,j<i->(L.getD j []).length<=6:=λj hj=>by
  have:=i3 j hj
  unfold qcr at this;simp only[Bool.or_eq_false_iff,decide_eq_false_iff_not]at this;omega
 have hp:=qz2 h6;have hp2:prN L i<=2401:=by
  have:7^min i 4<=7^4:=Nat.pow_le_pow_right om (Nat.min_le_right _ _)
  have h3:(7:Nat)^4=2401:=rfl;omega
 have hst:prN L (i+1)=if i<4 then prN L i*((L.getD i []).length+1) else prN L i:=rfl
 obtain⟨q,hq⟩:=wc (prN L i)
 have eq:=hq.symm;rw[eq]at hp2 hst
 by_cases hi:i<L.length
 ·have k1:((i:Int)<L.length)=True:=wh;have hit:qcr i (L.getD i [])=true->R=true:=λhc=>by rw[hR,qZ.2 ⟨i,hi,hc⟩];rfl
  have i4:=λhc=>U6 (p:=λi=>qcr i (L.getD i [])) i3 hc
  obtain⟨r,hr⟩:=wc (L.getD i [])
  have er:=hr.symm;rw[er]at hst hit;simp only[er]at i4;have hB:qcr i r=(decide (6<r.length)||((decide (4<=i)&&decide (1<r.length))||jK (λk=>qa8 (r.getD k default)) r.length)):=rfl
  by_cases g1:6<r.length
  ·have k2:((6:Int)<r.length)=True:=wh;rw[hit (by rw[hB,dqt g1];rfl)];simp (disch:=omega) only[qp,ja,k1,k2,er,eq,go_sem]
   repeat' first|exact v7|(with_reducible first|intro _|apply aiA)|exact clz|fail
  have k2:((6:Int)<r.length)=False:=wi;rw[dqf g1,Bool.false_or]at hB;have hq':q*(r.length+1)<=2401*7:=Nat.mul_le_mul hp2 om;have hmul:(q:Int)*((r.length:Int)+1)=((q*(r.length+1):Nat):Int):=by push_cast;rfl
  have m2:(((q*(r.length+1):Nat):Int)<=9223372036854775807)=True:=wh;have m3:(-9223372036854775808<=((q*(r.length+1):Nat):Int))=True:=wh
  by_cases gg:4<=i∧1<r.length
  ·have k3:((4:Int)<=i)=True:=wh;have k5:((1:Int)<r.length)=True:=wh;rw[hit (by rw[hB,dqt gg.1,dqt gg.2];rfl)];simp (disch:=omega) only[qp,ja,k1,k2,k3,k5,er,eq,go_sem]
   repeat' first|exact v7|with_reducible apply aiA|exact clz|fail
  have hB':qcr i r=jK (λk=>qa8 (r.getD k default)) r.length:=by
   rw[hB]
   have:(decide (4<=i)&&decide (1<r.length))=false:=by
    rw[<-Bool.decide_and];exact dqf gg
   rw[this,Bool.false_or]
  rcases Nat.lt_or_ge i 4 with gi|gi
  ·have k3:((4:Int)<=i)=False:=wi;have k4:((i:Int)<4)=True:=wh;rw[ipo gi]at hst;simp (disch:=omega) only[qp,ja,k1,k2,k3,k4,er,eq,hmul,go_sem]
   repeat' first|(apply qa;exact rvk;simp only[go_sem];apply qd)|(with_reducible first|intro _|apply aiA)|exact clz|fail
   refine qt (T:=λk:Nat×AObj=>zg 97 [(0,qp L),(3,.int .i64 ((q*(r.length+1):Nat):Int)),(4,.int .i64 i),(5,.int .i64 k.1)]) (H:=λk=>h++ [k.2]) (inv:=λk=>k.1<=r.length∧qH [k.2] 0=true∧ ∀j,j<k.1->(λk=>qa8 (r.getD k default)) j=false) (m:=λk=>r.length-k.1) (0,O) ⟨nzl _,i2,λj hj=>absurd hj (nnz j)⟩ (Wk.temps ?_) ?_
   ·(simp only[qp,go_sem,qh,qf,qb,qg];try exact wa)
   rintro⟨k,O'⟩ ⟨u1,u2,u3⟩ K2 hK2;simp only at u1 u2 u3 hK2;have u2': ∀m,qH (O'::m) 0=true:=λ_=>u2
   by_cases hk:k<r.length
   ·have t1:((k:Int)<r.length)=True:=wh;have hbit:qa8 (r.getD k default)=true->R=true:=λhc=>hit (by rw[hB',qZ];exact⟨k,hk,hc⟩)
    have u4:=λhc=>U6 (p:=λk=>qa8 (r.getD k default)) u3 hc
    obtain⟨t,ht⟩:=wc (r.getD k default)
    have et:=ht.symm;rw[et]at hbit;simp only[et]at u4;have hT:qa8 t=(decide (12<t.text.length)||(decide (12<t.norm.length)||(decide (20<t.page.length)||decide (20<t.name.length)))):=rfl
    by_cases gA:12<t.text.length
    ·have qA:((12:Int)<t.text.length)=True:=wh;rw[hbit (by rw[hT,dqt gA];simp)];simp (disch:=omega) only[qp,ja,tkC,k1,t1,er,et,u2',qA,go_sem]
     repeat' first|exact v7|with_reducible apply aiA|exact clz|fail
    have qA:((12:Int)<t.text.length)=False:=wi
    by_cases gB:12<t.norm.length
    ·have qB:((12:Int)<t.norm.length)=True:=wh;rw[hbit (by rw[hT,dqt gB];simp)];simp (disch:=omega) only[qp,ja,tkC,k1,t1,er,et,u2',qA,qB,go_sem]
     repeat' first|exact v7|with_reducible apply aiA|exact clz|fail
    have qB:((12:Int)<t.norm.length)=False:=wi
    by_cases gC:20<t.page.length
    ·have qC:((20:Int)<t.page.length)=True:=wh;rw[hbit (by rw[hT,dqt gC];simp)];simp (disch:=omega) only[qp,ja,tkC,k1,t1,er,et,u2',qA,qB,qC,go_sem]
     repeat' first|exact v7|with_reducible apply aiA|exact clz|fail
    have qC:((20:Int)<t.page.length)=False:=wi
    by_cases gD:20<t.name.length
    ·have qD:((20:Int)<t.name.length)=True:=wh;rw[hbit (by rw[hT,dqt gD];simp)];simp (disch:=omega) only[qp,ja,tkC,k1,t1,er,et,u2',qA,qB,qC,qD,go_sem]
     repeat' first|exact v7|with_reducible apply aiA|exact clz|fail
    have qD:((20:Int)<t.name.length)=False:=wi;simp (disch:=omega) only[qp,ja,tkC,k1,t1,er,et,u2',qA,qB,qC,qD,go_sem]
    repeat' first|with_reducible apply aiA|exact clz|fail
    refine hK2 _ _ (k+1,_) ⟨hk,rfl,u4 (by rw[hT,dqf gA,dqf gB,dqf gC,dqf gD];rfl)⟩ (by simp only;omega) (Wk.temps ?_)
    (simp only[qp,ja,tkC,go_sem,qh,qf,qb,qg];try exact wa)
   ·have t1:((k:Int)<r.length)=False:=wi;have hz:qcr i r=false:=by rw[hB',qu];exact λj hj=>u3 j om
    simp (disch:=omega) only[qp,ja,t1,er,go_sem]
    repeat' first|with_reducible apply aiA|exact clz|fail
    refine hK _ _ (i+1,O') ⟨hi,u2,i4 hz⟩ (by simp only;omega) ?_;simp only[hst];refine Wk.temps ?_
    (simp only[qp,go_sem,qh,qf,qb,qg];try exact wa)
  ·have k3:((4:Int)<=i)=True:=wh;have k4:((i:Int)<4)=False:=wi;have k5:((1:Int)<r.length)=False:=wi;rw[ine om]at hst;simp (disch:=omega) only[qp,ja,k1,k2,k3,k4,k5,er,eq,hmul,go_sem]
   repeat' first|with_reducible apply aiA|exact clz|fail
   refine qt (T:=λk:Nat×AObj=>zg 97 [(0,qp L),(3,.int .i64 (q:Int)),(4,.int .i64 i),(5,.int .i64 k.1)]) (H:=λk=>h++ [k.2]) (inv:=λk=>k.1<=r.length∧qH [k.2] 0=true∧ ∀j,j<k.1->(λk=>qa8 (r.getD k default)) j=false) (m:=λk=>r.length-k.1) (0,O) ⟨nzl _,i2,λj hj=>absurd hj (nnz j)⟩ (Wk.temps ?_) ?_
   ·(simp only[qp,go_sem,qh,qf,qb,qg];try exact wa)
   rintro⟨k,O'⟩ ⟨u1,u2,u3⟩ K2 hK2;simp only at u1 u2 u3 hK2;have u2': ∀m,qH (O'::m) 0=true:=λ_=>u2
   by_cases hk:k<r.length
   ·have t1:((k:Int)<r.length)=True:=wh;have hbit:qa8 (r.getD k default)=true->R=true:=λhc=>hit (by rw[hB',qZ];exact⟨k,hk,hc⟩)
    have u4:=λhc=>U6 (p:=λk=>qa8 (r.getD k default)) u3 hc
    obtain⟨t,ht⟩:=wc (r.getD k default)
    have et:=ht.symm;rw[et]at hbit;simp only[et]at u4;have hT:qa8 t=(decide (12<t.text.length)||(decide (12<t.norm.length)||(decide (20<t.page.length)||decide (20<t.name.length)))):=rfl
    by_cases gA:12<t.text.length
    ·have qA:((12:Int)<t.text.length)=True:=wh;rw[hbit (by rw[hT,dqt gA];simp)];simp (disch:=omega) only[qp,ja,tkC,k1,t1,er,et,u2',qA,go_sem]
     repeat' first|exact v7|with_reducible apply aiA|exact clz|fail
    have qA:((12:Int)<t.text.length)=False:=wi
    by_cases gB:12<t.norm.length
    ·have qB:((12:Int)<t.norm.length)=True:=wh;rw[hbit (by rw[hT,dqt gB];simp)];simp (disch:=omega) only[qp,ja,tkC,k1,t1,er,et,u2',qA,qB,go_sem]
     repeat' first|exact v7|with_reducible apply aiA|exact clz|fail
    have qB:((12:Int)<t.norm.length)=False:=wi
    by_cases gC:20<t.page.length
    ·have qC:((20:Int)<t.page.length)=True:=wh;rw[hbit (by rw[hT,dqt gC];simp)];simp (disch:=omega) only[qp,ja,tkC,k1,t1,er,et,u2',qA,qB,qC,go_sem]
     repeat' first|exact v7|with_reducible apply aiA|exact clz|fail
    have qC:((20:Int)<t.page.length)=False:=wi
    by_cases gD:20<t.name.length
    ·have qD:((20:Int)<t.name.length)=True:=wh;rw[hbit (by rw[hT,dqt gD];simp)];simp (disch:=omega) only[qp,ja,tkC,k1,t1,er,et,u2',qA,qB,qC,qD,go_sem]
     repeat' first|exact v7|with_reducible apply aiA|exact clz|fail
    have qD:((20:Int)<t.name.length)=False:=wi;simp (disch:=omega) only[qp,ja,tkC,k1,t1,er,et,u2',qA,qB,qC,qD,go_sem]
    repeat' first|with_reducible apply aiA|exact clz|fail
    refine hK2 _ _ (k+1,_) ⟨hk,rfl,u4 (by rw[hT,dqf gA,dqf gB,dqf gC,dqf gD];rfl)⟩ (by simp only;omega) (Wk.temps ?_)
    (simp only[qp,ja,tkC,go_sem,qh,qf,qb,qg];try exact wa)
   ·have t1:((k:Int)<r.length)=False:=wi;have hz:qcr i r=false:=by rw[hB',qu];exact λj hj=>u3 j om
    simp (disch:=omega) only[qp,ja,t1,er,go_sem]
    repeat' first|with_reducible apply aiA|exact clz|fail
    refine hK _ _ (i+1,O') ⟨hi,u2,i4 hz⟩ (by simp only;omega) ?_;simp only[hst];refine Wk.temps ?_
    (simp only[qp,go_sem,qh,qf,qb,qg];try exact wa)
 have k1:((i:Int)<L.length)=False:=wi;obtain rfl:i=L.length:=by omega
 rw[qu.2 (λj hj=>i3 j hj),Bool.false_or,<-hq]at hR
 by_cases g1:400<q
 ·have k2:((400:Int)<q)=True:=wh;rw[hR,dqt g1,Bool.true_or];simp (disch:=omega) only[qp,k1,k2,eq,go_sem]
  repeat' first|exact v7|fail
 have k2:((400:Int)<q)=False:=wi;rw[dqf g1,Bool.false_or]at hR
 by_cases g2:6<L.length
 ·have k3:((6:Int)<L.length)=True:=wh
  by_cases g3:L.length<=32
  ·have k4:((L.length:Int)<=32)=True:=wh;rw[hR,dqt g2,dqt g3];simp (disch:=omega) only[qp,k1,k2,k3,k4,eq,go_sem]
   repeat' first|exact v7|fail
  have k4:((L.length:Int)<=32)=False:=wi;have e1:decide ((34:Int)<L.length)=decide (34<L.length):=decide_eq_decide.2 om;rw[hR,dqt g2,dqf g3,<-e1];simp (disch:=omega) only[qp,k1,k2,k3,k4,eq,go_sem]
  repeat' first|exact v7|fail
 have k3:((6:Int)<L.length)=False:=wi;have e1:decide ((34:Int)<L.length)=decide (34<L.length):=decide_eq_decide.2 om;rw[hR,dqf g2,<-e1];simp (disch:=omega) only[qp,k1,k2,k3,eq,go_sem]
 repeat' first|exact v7|fail
structure CoB (x:Co):Prop where
 sg:x.sig.length<=9223372036854775807
 tk:x.tok.length<=9223372036854775807
 cl:x.col.length<=9223372036854775807
def qvZ(x:Co):Bool:=jK (λi=>decide (36<(x.col.getD i []).length)) x.col.length||(gtB x.tok||(decide (24<x.col.length)||(decide (36<x.sig.length)||gnB x.sec x.sig)))
theorem qEt(x:Co)(h:we)(hb:CoB x):ACalls Tryz.prog 9 [.agg (coC x)] h (.bool (qvZ x)) h:=by
 have c1:=λh=>gtP x.tok h hb.tk
 have c2:=λh=>gnP x.sec x.sig h hb.sg
 have hc:=hb.cl;obtain⟨R,hR⟩:=wc (qvZ x)
 rw[<-hR];unfold qvZ at hR;unfold qp at c1;unfold strs at c2;refine acO qEs ?_;simp (disch:=omega) only[c9s,coC,qw,go_sem];refine qt (T:=λi:Nat=>zg 40 [(1,.op h.length 1 0),(3,.int .i64 i)]) (H:=λ_=>h++ [.mem 1 26 (coC x)]) (inv:=λi=>i<=x.col.length∧ ∀j,j<i->(λi=>decide (36<(x.col.getD i []).length)) j=false) (m:=λi=>x.col.length-i) 0 ⟨nzl _,λj hj=>absurd hj (nnz j)⟩ (Wk.temps ?_) ?_
 ·(simp only[go_sem,qh,qf,qb,qg];try exact wa)
 rintro i ⟨i1,i2⟩ K hK
 by_cases hi:i<x.col.length
 ·have k1:((i:Int)<x.col.length)=True:=wh
  by_cases g:36<(x.col.getD i []).length
  ·have hV:R=true:=by rw[hR,qZ.2 ⟨i,hi,dqt g⟩];rfl
   obtain⟨s,hs⟩:=wc (x.col.getD i [])
   have es:=hs.symm;rw[es]at g;have k2:((36:Int)<s.length)=True:=wh;rw[hV];simp (disch:=omega) only[coC,qw,qP,k1,k2,es,go_sem]
   repeat' first|exact v7|with_reducible apply aiA|exact clz|fail
  ·have i3:=U6 i2 (dqf g);obtain⟨s,hs⟩:=wc (x.col.getD i [])
   have es:=hs.symm;rw[es]at g;have k2:((36:Int)<s.length)=False:=wi;simp (disch:=omega) only[coC,qw,qP,k1,k2,es,go_sem]
   repeat' first|with_reducible apply aiA|exact clz|fail
   refine hK _ _ (i+1) ⟨hi,i3⟩ om (Wk.temps ?_)
   (simp only[go_sem,qh,qf,qb,qg];try exact wa)
 have k1:((i:Int)<x.col.length)=False:=wi;rw[qu.2 (λj hj=>i2 j om),Bool.false_or]at hR;cases gA:gtB x.tok with
 |true=>
  rw[gA]at hR c1;rw[hR,Bool.true_or];simp (disch:=omega) only[coC,qw,k1,qp,go_sem]
  repeat' first|(refine ql ( .bool false) ?_;simp (disch:=omega) only[go_sem])|(refine cA (c1 _) flk ?_;simp (disch:=omega) only[go_sem])|exact v7|with_reducible apply aiA|exact clz|fail
 |false=>
 rw[gA]at hR c1;rw[Bool.false_or]at hR
 by_cases g2:24<x.col.length
 ·have k2:((24:Int)<x.col.length)=True:=wh;rw[hR,dqt g2,Bool.true_or];simp (disch:=omega) only[coC,qw,k1,qp,go_sem]
  repeat' first|(refine ql ( .bool false) ?_;simp (disch:=omega) only[go_sem])|(refine cA (c1 _) flk ?_;simp (disch:=omega) only[k2,go_sem])|exact v7|with_reducible apply aiA|exact clz|fail
 have k2:((24:Int)<x.col.length)=False:=wi;rw[dqf g2,Bool.false_or]at hR
 by_cases g3:36<x.sig.length
 ·have k3:((36:Int)<x.sig.length)=True:=wh;rw[hR,dqt g3,Bool.true_or];simp (disch:=omega) only[coC,qw,k1,qp,strs,go_sem]
  repeat' first|(refine ql ( .bool false) ?_;simp (disch:=omega) only[go_sem])|(refine cA (c1 _) flk ?_;simp (disch:=omega) only[k2,k3,go_sem])|exact v7|with_reducible apply aiA|exact clz|fail
 have k3:((36:Int)<x.sig.length)=False:=wi;rw[dqf g3,Bool.false_or]at hR;rw[hR];simp (disch:=omega) only[coC,qw,k1,qp,strs,go_sem]
 repeat' first|((first|refine cA (c1 _) ?_ ?_|refine cG (λe=>c2 _) ?_ ?_);exact flk;simp (disch:=omega) only[k2,k3,go_sem])|exact v7|with_reducible apply aiA|exact clz|fail
end RC
end
section
open Go Go.Proofs AF
def qlm:List Nat:= []
def qDu:C:=
 (vS [ON 2 (.nilo 0 1 9) []] (vS [ON 3 (.nilo 1 1 9) []] ((vS [MV 6 0,O1 7 .len 6,vM 8 0] (C.block 0 (vS [BI 9 .lss 8 7] ((vU 9 0).seq ((C.block 1 (vS [O2 10 (.idxA 7) 6 8,O1 11
 (.load (some 7)) 10,⟨some 5,none,.alloc 2 133 [.str [],i6 0,i6 0,i6 0,.bool false,.bool false,.str []],[]⟩,ST 7 5 11] (vW [MV 12 3,vL 13 0 5,LD 14 13,⟨some 15,none,.bslc 3 1 1
 9 [.str []] [(0,1)],[.t 14]⟩,O2 16 (.app 4 1 9 16) 12 15,MV 3 16]))).seq (vW [vN 17 .add 8 1,MV 8 17])))).loop)).seq (vV [MV 18 3,MV 2 18]))))
theorem qCh:qK Tryz.prog 19 19 5 [RV.tmp 2] qDu:=fi Tryz.f19 [2,3,5,15,16] qlm []
def qBs:C:=
 (vS [O1 2 (.box 0 26) 0,vM 4 0] ((vS [O1 5 (.load (some 4)) 2,O1 6 (.call 47 true) 5,vN 7 .neq 6 0] (vT 7 (vV [vM 4 1]))).seq ((vS [O1 8 (.load (some 4)) 2,MV 9 1,O2 10 (.call
 74 true) 8 9,vN 11 .neq 10 0] (vT 11 (vV [vM 4 20]))).seq (vV [vM 4 0]))))
theorem qtP:qK Tryz.prog 66 12 1 [RV.tmp 4] qBs:=fi Tryz.f66 [2] qlm []
end
section
open Go Go.Proofs AF HY LN
namespace RC
def qte(L:List (List Str)):AV:= .sl L.length λi=> [strs (L.getD i [])]
def qsI(L:List Bool):AV:= .sl L.length λi=> [.bool (L.getD i false)]
theorem flag_clsV(L:List (List Str)):(qte L).flag=true:=rfl
theorem strip_clsV(L:List (List Str)):(qte L).strip=qte L:=rfl
theorem flag_bolV(L:List Bool):(qsI L).flag=true:=rfl
theorem strip_bolV(L:List Bool):(qsI L).strip=qsI L:=rfl
section
variable {fz : Nat -> Bool} {h : we} {n : Nat}
theorem rei_clsV(L:List (List Str)):rei fz h (n+1) (qte L)=qte L:=rfl
theorem rei_bolV(L:List Bool):rei fz h (n+1) (qsI L)=qsI L:=rfl
theorem frz_clsV(L:List (List Str)):frz fz h (n+1) (qte L)=qte L:=rfl
theorem frz_bolV(L:List Bool):frz fz h (n+1) (qsI L)=qsI L:=rfl
end
attribute [go_sem] flag_clsV strip_clsV flag_bolV strip_bolV rei_clsV rei_bolV frz_clsV frz_bolV
theorem so{α:Type}{d:α}(L:List α)(P:α->Prop)(hd:P d)(h: ∀i,i<L.length->P (L.getD i d)): ∀i,P (L.getD i d):=by
 intro i
 by_cases hi:i<L.length
 ·exact h i hi
 ·rw[gdqA,List.getElem?_eq_none om];exact hd
theorem qzm{x:Co}(h:qvZ x=false):qfk x∧x.col.length<=24∧x.sig.length<=36:=by
 unfold qvZ at h;rw[Bool.or_eq_false_iff,Bool.or_eq_false_iff,Bool.or_eq_false_iff,Bool.or_eq_false_iff,qu,decide_eq_false_iff_not,decide_eq_false_iff_not]at h;obtain⟨h1,h2,h3,h4,h5⟩:=h;unfold gtB at h2;rw[Bool.or_eq_false_iff,qu,Bool.or_eq_false_iff,Bool.or_eq_false_iff,decide_eq_false_iff_not,decide_eq_false_iff_not]at h2;obtain⟨t1,t2,t3,t4⟩:=h2;unfold gnB at h5;rw[Bool.or_eq_false_iff,qu,decide_eq_false_iff_not]at h5;obtain⟨n1,n2⟩:=h5;have hrow: ∀i,i<x.tok.length->(x.tok.getD i []).length<=6∧ ∀j,j<(x.tok.getD i []).length->qa8 ((x.tok.getD i []).getD j default)=false:=λi hi=>by
  have:=t1 i hi
  unfold qcr at this;rw[Bool.or_eq_false_iff,Bool.or_eq_false_iff,decide_eq_false_iff_not,qu]at this;exact⟨om,this.2.2⟩
 have hd0:qst (default:Tk):=⟨by decide,by decide,by decide,by decide⟩
 refine⟨⟨om,om,?_,om,?_,?_,om,?_⟩,om,om⟩
 ·exact so x.sig (λs=>s.length<=1000000000) (by decide) λi hi=>by
   have:=of_decide_eq_false (n1 i hi)
   omega
 ·exact so x.tok (λs=>s.length<=1000000000) (by decide) λi hi=>by have:=(hrow i hi).1;omega
 ·exact so x.tok (λs=> ∀j,qst (s.getD j default)) (λj=>by simpa using hd0) λi hi=>so _ qst hd0 λj hj=>by
   have:=(hrow i hi).2 j hj
   unfold qa8 at this;simp only[Bool.or_eq_false_iff,decide_eq_false_iff_not]at this;exact⟨om,om,om,om⟩
 ·exact so x.col (λs=>s.length<=1000000000) (by decide) λi hi=>by
   have:=of_decide_eq_false (h1 i hi)
   omega
end RC
end
section
namespace AF
open Go
theorem Wk.moveCell{t:wg}{h:we}{i j a w v:Nat}{ty ty':TypeId}{ds cs:wg}{sz off len:Nat}
  (hi:qq i h=some (.mem w ty' ds)) (ha:ds[a]? =some (.osl j v sz off len)) (hj:qq j h=some (.mem v ty cs)) (hne:i≠j):
  Wk t h t (qn i (qn j h (.emp (v+1))) (.mem w ty' (ds.set a (.osl h.length 1 sz off len)))++ [.mem 1 ty cs]):=by
 intro N W σ A H;obtain⟨p1,p2⟩:=H.hr.pushN 1;have hjl:=zE hj;have hil:=zE hi;have hj':qq j (h++ [.emp 0])=some (.mem v ty cs):=by rw[zx hjl];exact hj
 have hg:qq h.length (h++ [AObj.emp 0])=some (.emp 0):=by unfold qq;rw[List.getElem?_append_right (nlr _),Nat.sub_self];rfl
 have hk':qH (h++ [.emp 0]) h.length=true:=by unfold qH;rw[hg]
 obtain⟨σ2,q1,q2,q3⟩:=HR.move (h:=h++ [.emp 0]) p1 hj' hk' om;have e0:qn h.length (qn j (h++ [.emp 0]) (.emp (v+1))) (.mem (qo (qq h.length (h++ [.emp 0]))+1) ty cs)=qn j h (.emp (v+1))++ [.mem 1 ty cs]:=by
  rw[hg];unfold qn;rw[List.set_append_left _ _ hjl,List.set_append_right _ _ (by rw[List.length_set];exact nlr _),List.length_set,Nat.sub_self];rfl
 rw[e0]at q1;rw[hg]at q3;have ee:=p2.trans q2;have hiq:qq i (qn j h (.emp (v+1))++ [.mem 1 ty cs])=some (.mem w ty' ds):=by
  rw[zx (by rw[qL];exact hil),qR (by exact hne)];exact hi
 obtain⟨o,b,arr,o1,o2,o3,o4,o5,o6,o7,o8,o9⟩:=jq q1 (qQ hiq);obtain⟨o',b',arr',r1,r2,r3,r4,r5,r6,r7,r8,r9⟩:=jq H.hr (qQ hi);obtain⟨o2',s1,s2,s3⟩:=ee.obj i o' r1;rw[o1]at s1;cases s1;have eo:o=o':=s3 (o2.trans r2.symm);subst eo;rw[o4]at r4;cases r4;have earr:arr=arr':=by
  obtain⟨T,fz,_,x1⟩:=o5;obtain⟨T',fz',_,x2⟩:=r5;rw[x1]at x2;cases x2;rfl
 subst earr;have q:=q1.recell (cs':=ds.set a (.osl h.length 1 sz off len)) hiq o1 o4 o5 o6 (by simpa using o7) (λn x hn hx=>o8 n x (by simpa using hn) hx) (λn d x hd hx=>by
  rw[List.getElem?_set]at hd;split at hd
  ·rename_i e;subst e;split at hd
   ·cases hd;exact q3 sz off len x ((r9 a _ x ha hx).ext p2)
   ·cases hd
  ·exact o9 n d x hd hx)
 have e1:qn i (qn j h (.emp (v+1))++ [.mem 1 ty cs]) (.mem w ty' (ds.set a (.osl h.length 1 sz off len)))=qn i (qn j h (.emp (v+1))) (.mem w ty' (ds.set a (.osl h.length 1 sz off len)))++ [.mem 1 ty cs]:=by
  unfold qn;rw[List.set_append_left _ _ (by rw[List.length_set];exact hil)]
 rw[e1]at q;exact⟨σ2,⟨q,H.sz,λn d x hd hx=>(H.tm n d x hd hx).ext ee,qae ee H.df⟩,ee⟩
end AF
end
section
open Go Go.Proofs AF HY LN
namespace RC
def UA(base:Nat)(L:List Rd):wg:=(List.range L.length).flatMap λj=> [strs (L.getD j default).words,.osl (base+j) (L.getD j default).src.length 1 0 (L.getD j default).src.length]
def qgQ(L:List Rd):we:=L.map λr=> .mem r.src.length 3 (qU r.src)
theorem qqv(L:List Rd):(qgQ L).length=L.length:=by simp[qgQ]
theorem qmA{L:List Rd}{j:Nat}(hj:j<L.length):(qgQ L)[j]? =some (.mem (L.getD j default).src.length 3 (qU (L.getD j default).src)):=by
 unfold qgQ;rw[List.getElem?_map,zH hj,gdqA,zH hj];rfl
theorem qqu(L M:List Rd):qgQ (L++M)=qgQ L++qgQ M:=by simp[qgQ]
theorem qqw{L:List Rd}{j:Nat}(r:Rd):(qgQ L).set j (.mem r.src.length 3 (qU r.src))=qgQ (L.set j r):=by
 unfold qgQ;rw[List.map_set]
theorem qcT{α:Type}(f g:Nat->List α): ∀n,(∀i,i<n->f i=g i)->(List.range n).flatMap f=(List.range n).flatMap g:=λn h=>by
 rw[List.flatMap_def,List.flatMap_def];congr 1;exact List.map_congr_left λi hi=>h i (List.mem_range.1 hi)
theorem qmz(base:Nat)(L:List Rd)(r:Rd):UA base (L++ [r])=UA base L++ [strs r.words,.osl (base+L.length) r.src.length 1 0 r.src.length]:=by
 unfold UA;rw[lap,List.length_singleton,List.range_succ,List.flatMap_append];congr 1
 ·refine qcT _ _ _ λi hi=> ?_
  rw[gdqA,List.getElem?_append_left hi,<-gdqA]
 ·simp
theorem qbN(base:Nat)(L:List Rd):(UA base L).length=2*L.length:=by
 unfold UA;generalize L.length=n;generalize hf:(λj=> [strs (L.getD j default).words,AV.osl (base+j) (L.getD j default).src.length 1 0 (L.getD j default).src.length])=f;have h2: ∀j,(f j).length=2:=λj=>by rw[<-hf];rfl
 induction n with
 |zero=>rfl
 |succ n ih=>rw[List.range_succ,List.flatMap_append,lap,ih];simp[h2];omega
theorem qcU(base:Nat)(L:List Rd){k:Nat}(hk:k<L.length): ∃A B,A.length=2*k∧UA base L=A++ [strs (L.getD k default).words,.osl (base+k) (L.getD k default).src.length 1 0 (L.getD k default).src.length]++B∧
  ∀s,UA base (L.set k ⟨(L.getD k default).words,s⟩)=A++ [strs (L.getD k default).words,.osl (base+k) s.length 1 0 s.length]++B:=by
 have e:List.range L.length=List.range k++k::(List.range (L.length-(k+1))).map (λi=>k+1+i):=by
  conv=>lhs;rw[show L.length=k+1+(L.length-(k+1)) by omega,List.range_add,List.range_succ,List.append_assoc]
  rfl
 refine⟨(List.range k).flatMap λj=> [strs (L.getD j default).words,.osl (base+j) (L.getD j default).src.length 1 0 (L.getD j default).src.length],((List.range (L.length-(k+1))).map (λi=>k+1+i)).flatMap λj=> [strs (L.getD j default).words,.osl (base+j) (L.getD j default).src.length 1 0 (L.getD j default).src.length],?_,?_,λs=> ?_⟩
 ·have h2: ∀(f:Nat->wg),(∀j,(f j).length=2)-> ∀n,((List.range n).flatMap f).length=2*n:=λf hf n=>by
   induction n with
   |zero=>rfl
   |succ n ih=>rw[List.range_succ,List.flatMap_append,lap,ih];simp[hf];omega
  exact h2 _ (λ_=>rfl) _
 ·unfold UA;rw[e,List.flatMap_append,List.flatMap_cons,List.append_assoc]
 ·unfold UA;rw[List.length_set,e,List.flatMap_append,List.flatMap_cons,List.append_assoc];have g: ∀j,(L.set k ⟨(L.getD k default).words,s⟩).getD j default=if j=k then ⟨(L.getD k default).words,s⟩ else L.getD j default:=λj=>kh hk
  congr 1
  ·refine qcT _ _ _ λi hi=> ?_
   rw[g,ine om]
  ·rw[g,ipo rfl];show _::_::_=_::_::_;congr 2;rw[List.flatMap_def,List.flatMap_def,List.map_map,List.map_map];refine congrArg List.flatten (List.map_congr_left λi _=> ?_);simp only[Function.comp];rw[g,ine om]
theorem qqt{base:Nat}{L:List Rd}{i:Nat}(hi:i<L.length):((UA base L).drop (i*2)).take 2= [strs (L.getD i default).words,.osl (base+i) (L.getD i default).src.length 1 0 (L.getD i default).src.length]:=by
 obtain⟨A,B,h1,h2,_⟩:=qcU base L hi;rw[h2,show i*2=A.length by omega,List.append_assoc,List.drop_append,Nat.sub_self];simp
theorem qpM{L:List Int}{n:Nat}{g:AV->AV}(hg: ∀x,g (.int .i64 x)= .int .i64 x)(hn:n=L.length):ILe (qg0 (some (.mem n 3 (qU L))) n 1 0 n g) (qP L):=by
 subst hn;rw[slOf_mem,ipo ⟨rfl,by rw[jL];omega⟩];refine ILe.sl_eq λi hi=> ?_
 simp only[Nat.zero_add,Nat.mul_one];have e:((qU L).drop i).take 1= [.int .i64 (L.getD i 0)]:=by
  rw[List.drop_eq_getElem_cons (by rw[jL];exact hi),List.take_succ_cons,List.take_zero];have h:=qlu (C:=L) hi;rw[zH (by rw[jL];exact hi)]at h;rw[Option.some.inj h]
 rw[e,List.map_cons,List.map_nil,hg]
theorem qmC{base v:Nat}{L:List Rd}{n:Nat}{fz:Nat->Bool}{H:we}{d:Nat}(hn:n=L.length)(hf: ∀j,j<L.length->fz (base+j)=true)(hj: ∀j,j<L.length->qq (base+j) H=some (.mem (L.getD j default).src.length 3 (qU (L.getD j default).src))):
  VLe (qg0 (some (zw v 152 (UA base L))) v 2 0 n (rei fz H (d+2))) (ky L):=by
 subst hn
 by_cases h0:L= []
 ·subst h0;show VLe (qg0 (some (.emp v)) v 2 0 0 _) _;rw[slOf_emp,ipo rfl];exact zB
 ·have e0:zw v 152 (UA base L)= .mem v 152 (UA base L):=cb (λe=>h0 (by
   have:=qbN base L
   rw[e]at this
   exact List.eq_nil_of_length_eq_zero (by simp at this;omega)))
  rw[e0,slOf_mem,ipo ⟨rfl,by rw[qbN];omega⟩];refine VLe.sl (λi hi=> ?_);simp only[Nat.zero_add];rw[qqt hi];refine⟨ILe.refl _,?_,trivial⟩;show ILe (rei fz H (d+1+1) (.osl (base+i) _ 1 0 _)) _;rw[rei_osl,ipo (hf i hi),hj i hi];exact qpM (λ_=>rfl) rfl
theorem qto{A B:wg}{a b c:AV}{n:Nat}(hn:n=A.length+1):List.take n (A++ [a,b]++B)++ [c]++List.drop (n+1) (A++ [a,b]++B)=A++ [a,c]++B:=by
 have e1:A++ [a,b]++B=(A++ [a])++(b::B):=by simp
 have e2:A++ [a,b]++B=(A++ [a]++ [b])++B:=by simp
 have h1:List.take n (A++ [a,b]++B)=A++ [a]:=by rw[e1];exact List.take_left' (by rw[lap,List.length_singleton,hn])
 have h2:List.drop (n+1) (A++ [a,b]++B)=B:=by rw[e2];exact List.drop_left' (by rw[lap,lap,List.length_singleton,List.length_singleton,hn])
 rw[h1,h2];simp
theorem qjf{hi:Int}: ∀ {S:List Int} {lo:Int},S.Pairwise (· < ·)->(∀x∈S,lo<=x∧x<hi)->S.length<=(hi-lo).toNat:=by
 intro S
 induction S with
 |nil=>intro lo _ _;exact nzl _
 |cons a S ih=>
  intro lo h1 h2;obtain⟨p1,p2⟩:=List.pairwise_cons.1 h1;have ha:=h2 a List.mem_cons_self
  have:=ih (lo:=a+1) p2 λx hx=>⟨by have:=p1 x hx;omega,(h2 x (List.mem_cons_of_mem _ hx)).2⟩
  rw[lco];omega
theorem qCH{h M:we}{a0 a1 a2 a3 a4 a5 a6 a7 a8:AObj}:(h++a0::a1::a2::a3::a4::a5::a6::a7::a8::M).length=h.length+9+M.length:=by
 simp only[lap,lco];omega
theorem qew{h M:we}{a0 a1 a2 a3 a4 a5 a6 a7 a8:AObj}{j:Nat}:qq (h.length+9+j) (h++a0::a1::a2::a3::a4::a5::a6::a7::a8::M)=M[j]? :=by
 unfold qq;rw[List.getElem?_append_right om,show h.length+9+j-h.length=j+9 by omega];rfl
theorem qAt{h M:we}{a0 a1 a2 a3 a4 a5 a6 a7 a8 o:AObj}{j:Nat}:qn (h.length+9+j) (h++a0::a1::a2::a3::a4::a5::a6::a7::a8::M) o=h++a0::a1::a2::a3::a4::a5::a6::a7::a8::M.set j o:=by
 unfold qn;rw[List.set_append_right _ _ om,show h.length+9+j-h.length=j+9 by omega];rfl
theorem qDU(x:Co)(f t:Nat)(h:we)(ho:CoOk x)(ht:t<=x.col.length)(hn:x.col.length<=1000000000):ACalls Tryz.prog 63 [.agg (coC x),.int .i64 (f:Int),.int .i64 (t:Int)] h (ky (qeb x f t)) h:=by
 have zl: ∀g,valL g .len [strs x.sig]= .int .i64 x.sig.length:=λ_=>rfl
 have zo: ∀g,okL g .len [strs x.sig]=True:=λ_=>eqt trivial
 refine acO qCr ?_;simp (disch:=omega) only[qDD,coC,zl,zo,go_sem];refine qt (T:=λi:Nat×Nat×AObj×AObj×AObj×AObj=>zg 48 [(1,.int .i64 (f:Int)),(2,.int .i64 (t:Int)),(3,.op h.length 1 0),(7,.osl (h.length+2) i.2.1 2 0 (qbj x f (t-f) i.1).length),(13,.int .i64 x.sig.length),(14,.int .i64 i.1)])
  (H:=λi=>h++ .mem 1 26 (coC x):: .emp 1::zw i.2.1 152 (UA (h.length+9) (qbj x f (t-f) i.1))::i.2.2.1::i.2.2.2.1::i.2.2.2.2.1:: .emp 0::i.2.2.2.2.2:: .emp 0::qgQ (qbj x f (t-f) i.1))
  (inv:=λi=>i.1<=x.sig.length∧qH [i.2.2.1] 0=true∧qH [i.2.2.2.1] 0=true∧qH [i.2.2.2.2.1] 0=true∧qH [i.2.2.2.2.2] 0=true) (m:=λi=>x.sig.length-i.1) (0,1,.emp 0,.emp 0,.emp 0,.emp 0) ⟨nzl _,rfl,rfl,rfl,rfl⟩ (Wk.temps ?_) ?_
 ·(simp only[qbj,lnl,go_sem,qh,qf,qb,qg];try exact wa)
 rintro⟨s,v,O3,O4,O5,O7⟩ ⟨i1,j3,j4,j5,j7⟩ K hK;simp only at i1 j3 j4 j5 j7 hK;have j3': ∀m,qH (O3::m) 0=true:=λ_=>j3
 have j4': ∀m,qH (O4::m) 0=true:=λ_=>j4
 have j5': ∀m,qH (O5::m) 0=true:=λ_=>j5
 have j7': ∀m,qH (O7::m) 0=true:=λ_=>j7
 have hst:qbj x f (t-f) (s+1)=qfg (qbj x f (t-f) s) (rdG x s f (t-f)) s:=rfl;have hln:=qgT x f (t-f) s;have hsg:=ho.sg;obtain⟨L,hL⟩:=wc (qbj x f (t-f) s)
 rw[<-hL]at hst hln;have eL:=hL.symm
 by_cases hs:s<x.sig.length
 ·have k1:((s:Int)<x.sig.length)=True:=wh;have c21:=λh=>rdP x f t s h ho ht hs hn
  obtain⟨w,hw⟩:=wc (rdG x s f (t-f))
  rw[<-hw]at hst;simp only[<-hw]at c21;unfold coC at c21;simp (disch:=omega) only[coC,k1,eL,go_sem]
  repeat' first|(refine cA (c21 _) flk ?_;simp (disch:=omega) only[j3',j4',go_sem])
  have hwl:w.length<=1000000000:=by have:=qdJ x s f (t-f);rw[<-hw]at this;omega
  have hRd:=qgR x f (t-f) s;rw[eL]at hRd;have hwL: ∀j,(L.getD j default).words.length<=1000000000:=so L (λr=>r.words.length<=1000000000) (by decide) λj hj=>by
   have h1:=hRd.nn j hj;obtain⟨y,ys,e⟩:=List.exists_cons_of_ne_nil h1;have h2:=hRd.wd j hj y (by rw[e];exact List.mem_cons_self);rw[h2]
   have:=qdJ x y.toNat f (t-f)
   omega
  have hob:= @qmA L;refine cA (r:= .int .i64 (qi5 L w)) ?c (by exact flk) ?_
  case c=>
   refine ACalls.borrow ((fdP L ⟨w,[(s:Int)]⟩ [] om hwl hwL).le ?v (qi)) rfl;simp only[List.map_cons,List.map_nil,go_sem];refine⟨qmC rfl (λ_ _=>rfl) (λj hj=>by rw[qew];exact hob hj),VLe.agg ⟨qi,VLe.sl_eq rfl (λi hi=> ?_),trivial⟩,qi,trivial⟩;obtain rfl:i=0:=by simpa using hi
   rfl
  have eKl:=qbN (h.length+9) L;rcases qaW L w with⟨k,b1,b2,b3⟩|⟨b1,b2⟩
  ·have q1:(qi5 L w<0)=False:=wi;have hst2:qbj x f (t-f) (s+1)=L.set k ⟨w,(L.getD k default).src++ [(s:Int)]⟩:=by
    rw[hst];unfold qfg;rw[b3,ine om,itn]
   obtain⟨A,B,a1,a2,a3⟩:=qcU (h.length+9) L b1;have a3:=a3 ((L.getD k default).src++ [(s:Int)]);have hne:(UA (h.length+9) L≠ [])=True:=eqt λe=>by rw[e]at eKl;simp at eKl;omega
   have hob:=hob b1;rw[b2]at a2 a3;have hos:= @qqw L k ⟨w,(L.getD k default).src++ [(s:Int)]⟩;rw[<-hst2]at hos a3;dsimp only at hos;obtain⟨S,hS⟩:=wc ((L.getD k default).src)
   rw[<-hS]at a2 a3 hob hos;rw[lap,List.length_singleton]at a3 hos;rw[qlt,show qU [(s:Int)]= [AV.int .i64 (s:Int)]from rfl]at hos;have gg:(UA (h.length+9) L)[k*2+1]? =some (.osl (h.length+9+k) S.length 1 0 S.length):=by
    rw[a2,List.append_assoc,List.getElem?_append_right om,show k*2+1-A.length=1 by omega];rfl
   have gs:List.take (k*2+1) (UA (h.length+9) L)++ [.osl (h.length+9+k) (S.length+1) 1 0 (S.length+1)]++List.drop (k*2+1+1) (UA (h.length+9) L)=UA (h.length+9) (qbj x f (t-f) (s+1)):=by
    rw[a2,a3];exact qto om
   have eI:=jL S;have hSl:S.length<=1000:=by
    have:=(qgS x f (t-f) s).src (L.getD k default) (by rw[eL,gdqA,zH b1];exact List.getElem_mem b1)
    have:=qjf (hi:=(s:Int)) (lo:=0) this.1 this.2
    rw[<-hS]at this;omega
   have eown:zw v 152 (UA (h.length+9) L)= .mem v 152 (UA (h.length+9) L):=cb (of_eq_true hne);have el2:(qbj x f (t-f) (s+1)).length=L.length:=by rw[hst2,List.length_set]
   have eown2:zw v 152 (UA (h.length+9) (qbj x f (t-f) (s+1)))= .mem v 152 (UA (h.length+9) (qbj x f (t-f) (s+1))):=cb λe=>by
    have:=qbN (h.length+9) (qbj x f (t-f) (s+1))
    rw[e,el2]at this;simp at this;omega
   have eTi:List.take S.length (qU S)=qU S:=ltl om;have kL:((k:Int)<L.length)=True:=wh;have k0:(0<=(k:Int))=True:=wh;rw[eown];simp (disch:=omega) only[b3,j7',gg,eKl,kL,k0,Option.getD_some,Option.isSome_some,qew,qAt,hob,eTi,Nat.mul_one,itn,go_sem]
   repeat' first|(with_reducible first|intro _|apply aiA)|exact clz|fail
   all_goals try (simp only[ji,zM,qew,hob,UK,qk,if_true,Option.getD_some,eI,beq_self_eq_true];done)
   all_goals try (simp only[bne_iff_ne];omega)
   all_goals try (simp only[zM,qew,hob,qk,if_true,Option.getD_some,eI];exact nlr _)
   rw[gs];have eD:(AV.int .i64 (s:Int)::List.drop 1 (zf [i6 0] 1))= [AV.int .i64 (s:Int)]:=rfl;simp only[eD];rw[hos];refine hK _ _ (s+1,v,.mem (qo (some O3)+1) 3 [.int .i64 (s:Int)],.mem (qo (some O4)+1) 152 [strs w,.osl (h.length+3) (qo (some O3)+1) 1 0 1],O5,.mem (qo (some O7)+1) 3 [.int .i64 (s:Int)]) ⟨hs,rfl,rfl,j5,rfl⟩ (by simp only;omega) ?_;simp only[eown2,el2,coC];refine Wk.temps ?_
   (simp only[go_sem,qh,qf,qb,qg];try exact wa)
  ·have q1:(qi5 L w<0)=True:=eqt b2;have hst2:qbj x f (t-f) (s+1)=L++ [⟨w,[(s:Int)]⟩]:=by
    rw[hst];unfold qfg;rw[ipo b2]
   have eTk:List.take (L.length*2) (UA (h.length+9) L)=UA (h.length+9) L:=ltl om;simp (disch:=omega) only[q1,j5',eTk,eKl,Nat.mul_one,go_sem]
   repeat' first|with_reducible apply aiA|exact clz|fail
   have el2:(qbj x f (t-f) (s+1)).length=L.length+1:=by rw[hst2,lap];rfl
   have eo:qgQ (qbj x f (t-f) (s+1))=qgQ L++ [.mem 1 3 [.int .i64 (s:Int)]]:=by rw[hst2,qqu];rfl
   have ek:UA (h.length+9) (qbj x f (t-f) (s+1))=UA (h.length+9) L++ [strs w,.osl (h.length+9+L.length) 1 1 0 1]:=by rw[hst2,qmz];rfl
   have eown:zw (v+1) 152 (UA (h.length+9) L++ [strs w,.osl (h.length+3) (qo (some O3)+1) 1 0 1])= .mem (v+1) 152 (UA (h.length+9) L++ [strs w,.osl (h.length+3) (qo (some O3)+1) 1 0 1]):=cb (by simp);have eown2:zw (v+1) 152 (UA (h.length+9) L++ [strs w,.osl (h.length+9+L.length) 1 1 0 1])= .mem (v+1) 152 (UA (h.length+9) L++ [strs w,.osl (h.length+9+L.length) 1 1 0 1]):=cb (by simp);have eset:(UA (h.length+9) L++ [strs w,AV.osl (h.length+3) (qo (some O3)+1) 1 0 1]).set (L.length*2+1) (.osl (h.length+9+L.length) 1 1 0 1)=UA (h.length+9) L++ [strs w,.osl (h.length+9+L.length) 1 1 0 1]:=by
    rw[List.set_append_right _ _ om,eKl,show L.length*2+1-2*L.length=1 by omega];rfl
   rw[eown];refine hK _ _ (s+1,v+1,.emp (qo (some O3)+1+1),.mem (qo (some O4)+1) 152 [strs w,.osl (h.length+3) (qo (some O3)+1) 1 0 1],.mem (qo (some O5)+1) 152 [strs w,.osl (h.length+3) (qo (some O3)+1) 1 0 1],O7) ⟨hs,rfl,rfl,rfl,j7⟩ (by simp only;omega)
    (Wk.trans (Wk.moveCell (i:=h.length+2) (j:=h.length+3) (a:=L.length*2+1) (w:=v+1) (v:=qo (some O3)+1) (ty:=3) (ty':=152) (ds:=UA (h.length+9) L++ [strs w,.osl (h.length+3) (qo (some O3)+1) 1 0 1]) (cs:= [.int .i64 (s:Int)]) (sz:=1) (off:=0) (len:=1) ?m1 ?m2 ?m3 om) ?m4)
   case m1=>simp only[go_sem]
   case m2=>
    rw[List.getElem?_append_right om,show L.length*2+1-(UA (h.length+9) L).length=1 by omega];rfl
   case m3=>simp only[go_sem];rfl
   case m4=>
    have eD:(AV.int .i64 (s:Int)::List.drop 1 (zf [i6 0] 1))= [AV.int .i64 (s:Int)]:=rfl;have eD2: ∀c:AV,(strs w::c::List.drop 2 (zf [AV.nl,AV.nl] 1))= [strs w,c]:=λ_=>rfl
    simp only[eo,ek,eown2,el2,coC,eD,eD2,qCH,qqv,go_sem,eset,List.append_assoc,lca];refine Wk.temps ?_
    (simp only[go_sem,qh,qf,qb,qg];try exact wa)
 ·have k1:((s:Int)<x.sig.length)=False:=wi;obtain rfl:s=x.sig.length:=by omega
  have hF:qeb x f t=L:=by rw[hL];rfl
  rw[hF];simp (disch:=omega) only[k1,eL,go_sem]
  repeat' first|(apply qa;exact rvk;simp only[go_sem])
  exact qmC rfl (λj _=>dqt om) (λj hj=>by rw[qew];exact qmA hj)
theorem qEe(l:List Un)(f t:Nat)(k v k2 v2:Nat)(h:we)(hk:qq k h=some (.mem v 3 [.int .i64 (f:Int)]))(hk2:qq k2 h=some (.mem v2 3 [.int .i64 (t:Int)]))(hn:l.length<=1000000000):
  ACalls Tryz.prog 14 [jI l,.fn (.func 226) [] [.op k v 0,.op k2 v2 0]] h (.bool (rnB l (f,t))) h:=by
 have hc:=qQ hk;have hc2:=qQ hk2;unfold jI rnB;refine qvY qCf ⟨rfl,rfl⟩ ⟨rfl,rfl⟩ (qex qzc l.length (λj=>unC (l.getD j default)) (λj=> .agg (unC (l.getD j default))) _ [] [.op k v 0,.op k2 v2 0] _ h (λi _=>⟨rfl,by simp[jZ,unC],rfl,rfl,rfl⟩) (λi _=> ?_) om);refine ACalls.borrow ?_ rfl;have e:([AV.agg (unC (l.getD i default))]++ [AV.op k v 0,AV.op k2 v2 0]).map (rei (λ_=>true) h 8)= [.agg (unC (l.getD i default)),.ip [.int .i64 (f:Int)],.ip [.int .i64 (t:Int)]]:=by
  simp only[lca,lna,List.map_cons,List.map_nil,rei_op,if_true,hc,hc2,ipOf_some,List.drop_zero,rei_agg];rfl
 rw[lna,e];exact qEP _ _ _ _
theorem qow(l:List Un)(i:Nat):beH l (i+1)=(l.getD i default).to:=by unfold beH;rw[ine om,Nat.add_sub_cancel]
theorem qui(u:Un)(n v:Nat)(ty:TypeId):lowO n (.mem v ty (unC u)):=by
 intro c hc;simp only[unC,List.mem_cons,List.not_mem_nil,or_false]at hc;rcases hc with rfl|rfl|rfl<;>rfl
theorem quh(x:Co)(n v:Nat)(ty:TypeId):lowO n (.mem v ty (coC x)):=by
 intro c hc;simp only[coC,List.mem_cons,List.not_mem_nil,or_false]at hc;rcases hc with rfl|rfl|rfl|rfl<;>rfl
theorem qmK(x:Co): ∀a∈rnX x,a.length=2:=by
 intro a ha;unfold rnX at ha;obtain⟨_,_,rfl⟩:=List.mem_map.1 ha;rfl
theorem qfJ(x:Co):(rnX x).length=(qc4 (cmB x) x.col.length).length:=by simp[rnX]
theorem qmJ{x:Co}{i:Nat}(hi:i<(rnX x).length):(rnX x)[i]= [.int .i64 (((qc4 (cmB x) x.col.length).getD i (0,0)).1:Int),.int .i64 (((qc4 (cmB x) x.col.length).getD i (0,0)).2:Int)]:=by
 have h2:i<(qc4 (cmB x) x.col.length).length:=by rw[<-qfJ];exact hi
 simp only[rnX,List.getElem_map];rw[gdqA,zH h2];rfl
theorem qmB(x:Co)(f d:Nat)(hd:d<=1000000000)(s:Nat)(hs:s<=1000000000):qru (qbj x f d s):=by
 have hI:=qgS x f d s;have hH:=qgR x f d s;have hl:=qgT x f d s;refine⟨om,?_,?_⟩
 ·exact so _ (λr:Rd=>r.src.length<=1000000000) (by decide) λj hj=>by
   have:=hI.src ((qbj x f d s).getD j default) (by rw[gdqA,zH hj];exact List.getElem_mem hj)
   have:=qjf (hi:=(s:Int)) (lo:=0) this.1 this.2
   omega
 ·exact so _ (λr:Rd=>r.words.length<=1000000000) (by decide) λj hj=>by
   have h1:=hH.nn j hj;obtain⟨y,ys,e⟩:=List.exists_cons_of_ne_nil h1;have h2:=hH.wd j hj y (by rw[e];exact List.mem_cons_self);rw[h2]
   have:=qdJ x y.toNat f d
   omega
theorem qEQ(x:Co)(l:List Un)(h:we)(ho:CoOk x)(hn:x.col.length<=1000000000)(hu:qoa l):ACalls Tryz.prog 152 [.agg (coC x),jI l] h (.bool (rgB x l)) h:=by
 have hsg:=ho.sg;have hl:=hu.n;obtain⟨R,hR⟩:=wc (rgB x l)
 rw[<-hR];unfold rgB at hR;refine acO qye ?_;simp (disch:=omega) only[qwF,coC,jI,go_sem]
 repeat' first|with_reducible apply aiA|exact clz|fail
 refine qt (T:=λi:Nat×AObj=>zg 63 [(2,.op h.length 1 0),(3,.op (h.length+1) 1 0),(4,.op (h.length+2) 1 0),(5,.int .i64 (beH l i.1)),(10,jI l),(11,.int .i64 l.length),(12,.int .i64 i.1)])
  (H:=λi=>h++ [.mem 1 26 (coC x),.mem 1 31 [jI l],.mem 1 4 [.bool false],i.2,.emp 0,.emp 0])
  (inv:=λi=>i.1<=l.length∧qH [i.2] 0=true∧(∀n,lowO n i.2)∧ ∀j,j<i.1->unB x (beH l j) (l.getD j default)=true) (m:=λi=>l.length-i.1) (0,.emp 0) ⟨nzl _,rfl,λ_=>trivial,λj hj=>absurd hj (nnz j)⟩ (Wk.temps ?_) ?_
 ·(simp only[jI,beH,go_sem,qh,qf,qb,qg];try exact wa)
 rintro⟨i,O⟩ ⟨i1,i2,il,i3⟩ K hK;simp only at i1 i2 il i3 hK;have i2': ∀m,qH (O::m) 0=true:=λ_=>i2
 by_cases hi:i<l.length
 ·have k1:((i:Int)<l.length)=True:=wh;have hno:unB x (beH l i) (l.getD i default)=false->R=false:=λhx=>by
   rw[hR];unfold qci;rw[qZ.2 ⟨i,hi,by rw[hx];rfl⟩];rfl
  have hS:unB x (beH l i) (l.getD i default)=true-> ∀j,j<i+1->unB x (beH l j) (l.getD j default)=true:=λhx j hj=>by
   by_cases e:j=i
   ·subst e;exact hx
   ·exact i3 j om
  have hbs:=qow l i;have zrd:qru (l.getD i default).rds:=⟨hu.rd i,hu.sr i,hu.wd i⟩
  obtain⟨u,hux⟩:=wc (l.getD i default)
  have eu:=hux.symm;rw[eu]at hno hS hbs zrd;obtain⟨b,hb⟩:=wc (beH l i)
  have eb:=hb.symm;rw[eb]at hno hS;have hB:unB x b u= !(decide (u.frm<=b)||(decide (u.frm<0)||(decide (u.to<=u.frm)||(decide ((x.col.length:Int)<u.to)|| !decide (u.rds=qeb x u.frm.toNat u.to.toNat))))):=rfl
  by_cases g1:u.frm<=b
  ·have q1:(u.frm<=b)=True:=eqt g1;rw[hno (by rw[hB,dqt g1];rfl)];simp (disch:=omega) only[jI,unC,coC,qw,ky,k1,eu,eb,i2',q1,go_sem]
   repeat' first|(refine ql ( ky []) ?_;simp (disch:=omega) only[ky,go_sem])|exact v7|with_reducible apply aiA|exact clz|fail
  have q1:(u.frm<=b)=False:=eqf g1
  by_cases g2:u.frm<0
  ·have q2:(u.frm<0)=True:=eqt g2;rw[hno (by rw[hB,dqt g2];simp)];simp (disch:=omega) only[jI,unC,coC,qw,ky,k1,eu,eb,i2',q1,q2,go_sem]
   repeat' first|(refine ql ( ky []) ?_;simp (disch:=omega) only[ky,go_sem])|exact v7|with_reducible apply aiA|exact clz|fail
  have q2:(u.frm<0)=False:=eqf g2
  by_cases g3:u.to<=u.frm
  ·have q3:(u.to<=u.frm)=True:=eqt g3;rw[hno (by rw[hB,dqt g3];simp)];simp (disch:=omega) only[jI,unC,coC,qw,ky,k1,eu,eb,i2',q1,q2,q3,go_sem]
   repeat' first|(refine ql ( ky []) ?_;simp (disch:=omega) only[ky,go_sem])|exact v7|with_reducible apply aiA|exact clz|fail
  have q3:(u.to<=u.frm)=False:=eqf g3
  by_cases g4:(x.col.length:Int)<u.to
  ·have q4:((x.col.length:Int)<u.to)=True:=eqt g4;rw[hno (by rw[hB,dqt g4];simp)];simp (disch:=omega) only[jI,unC,coC,qw,ky,k1,eu,eb,i2',q1,q2,q3,q4,go_sem]
   repeat' first|(refine ql ( ky []) ?_;simp (disch:=omega) only[ky,go_sem])|exact v7|with_reducible apply aiA|exact clz|fail
  have q4:((x.col.length:Int)<u.to)=False:=eqf g4;obtain⟨f,hf⟩: ∃f:Nat,u.frm=(f:Int):=⟨u.frm.toNat,om⟩
  obtain⟨t,ht⟩: ∃t:Nat,u.to=(t:Int):=⟨u.to.toNat,om⟩
  have c48:=λh=>qDU x f t h ho om hn
  have zF:qru (qeb x f t):=qmB x f (t-f) om x.sig.length om;have c49:=λh=>qEW u.rds (qeb x f t) h zrd zF
  have eft:qeb x u.frm.toNat u.to.toNat=qeb x f t:=by rw[hf,ht,itn,itn]
  rw[dqf g1,dqf g2,dqf g3,dqf g4,eft]at hB;obtain⟨F,hF⟩:=wc (qeb x f t)
  rw[<-hF]at hB;simp only[<-hF]at c48 c49;obtain⟨c,hc⟩:=wc (decide (u.rds=F))
  rw[<-hc]at hB;simp only[<-hc]at c49;rw[hf]at q1 q2 q3;rw[ht]at q3 q4;unfold coC qw at c48;unfold ky at c48 c49;cases c with
  |false=>
   rw[hno hB];simp (disch:=omega) only[jI,unC,coC,qw,ky,k1,eu,eb,i2',q1,q2,q3,q4,hf,ht,go_sem]
   repeat' first|((first|refine cG (λe=>c48 _) ?_ ?_|refine cG (λe=>c49 _) ?_ ?_);exact flk;simp (disch:=omega) only[go_sem])|exact v7|with_reducible apply aiA|exact clz|fail
  |true=>
   simp (disch:=omega) only[jI,unC,coC,qw,ky,k1,eu,eb,i2',q1,q2,q3,q4,hf,ht,go_sem]
   repeat' first|((first|refine cG (λe=>c48 _) ?_ ?_|refine cG (λe=>c49 _) ?_ ?_);exact flk;simp (disch:=omega) only[go_sem])|with_reducible apply aiA|exact clz|fail
   refine hK _ _ (i+1,.mem (qo (some O)+1) 39 (unC u)) ⟨hi,rfl,λn=>qui u n _ _,hS hB⟩ (by simp only;omega) ?_;simp only[hbs,ht,unC,hf];refine Wk.temps ?_
   (simp only[jI,go_sem,qh,qf,qb,qg];try exact wa)
 have k1:((i:Int)<l.length)=False:=wi;obtain rfl:i=l.length:=by omega
 have hun:qci x l=true:=by
  unfold qci;rw[qu.2 λj hj=>by rw[i3 j hj];rfl];rfl
 rw[hun,Bool.true_and]at hR;have hcv:=qts hun;clear hK;have c56:=λh=>qDV x h
 unfold coC qw at c56;simp (disch:=omega) only[coC,qw,k1,go_sem]
 repeat' first|(refine cA (c56 _) flk ?_;simp (disch:=omega) only[go_sem])
 obtain⟨rs,hrs⟩:=wc (qc4 (cmB x) x.col.length)
 have hrl:=qfJ x;have hrg:=λi hi=>qmJ (x:=x) (i:=i) hi
 rw[<-hrs]at hrl hcv;simp only[<-hrs]at hrg;refine qY (xs:=rnX x) (itR x ho hn) (qmK x)
  (S:=λi hh=>(∃O8 O9,qH [O8] 0=true∧qH [O9] 0=true∧(∀n,lowO n O8)∧(∀n,lowO n O9)∧hh=h++ [.mem 1 26 (coC x),.mem 1 31 [jI l],.mem 1 4 [.bool false],O,O8,O9])∧ ∀j,j<i->rnB l (rs.getD j (0,0))=true)
  (E:=λs hh=>s= .ret∧R=false∧ ∃O8 O9,(∀n,lowO n O8)∧(∀n,lowO n O9)∧hh=h++ [.mem 1 26 (coC x),.mem 1 31 [jI l],.mem 1 4 [.bool false],O,O8,O9]) ?_ ?_ ?_ ?_ ?_ ?_ ?_
 ·rintro i hh ⟨⟨O8,O9,_,_,l8,l9,rfl⟩,_⟩;refine LowI.app rfl (λo ho=> ?_);simp only[List.mem_cons,List.not_mem_nil,or_false]at ho;rcases ho with rfl|rfl|rfl|rfl|rfl|rfl
  ·left;simp[coC,qw]
  ·left;simp
  ·left;simp
  ·left;simp
  ·right;exact⟨l8 _,l8 _⟩
  ·right;exact⟨l9 _,l9 _⟩
 ·rintro s hh ⟨_,_,O8,O9,l8,l9,rfl⟩;refine LowI.app rfl (λo ho=> ?_);simp only[List.mem_cons,List.not_mem_nil,or_false]at ho;rcases ho with rfl|rfl|rfl|rfl|rfl|rfl
  ·left;simp[coC,qw]
  ·left;simp
  ·left;simp
  ·left;simp
  ·right;exact⟨l8 _,l8 _⟩
  ·right;exact⟨l9 _,l9 _⟩
 ·exact⟨⟨.emp 0,.emp 0,rfl,rfl,λ_=>trivial,λ_=>trivial,rfl⟩,λj hj=>absurd hj (nnz j)⟩
 ·have lu: ∀n,qS n (jI l)=true:=λ_=>rfl
  have lt: ∀n,qS n (qp x.tok)=true:=λ_=>rfl
  simp[qS,qS.lowVs,lu,lt,qbI]
  try omega
 ·rintro i hh tl LI TS hi ⟨⟨O8,O9,s8,s9,l8,l9,rfl⟩,hj⟩ hlen K K2 hK hN hR' hX;rw[hrg i hi];rw[hrl]at hi;obtain⟨⟨f,t⟩,hr⟩: ∃r,r=rs.getD i (0,0):=⟨_,rfl⟩
  have er:=hr.symm;rw[er];have s8': ∀m,qH (O8::m) 0=true:=λ_=>s8
  have s9': ∀m,qH (O9::m) 0=true:=λ_=>s9
  simp only[jV];simp (disch:=omega) only[List.append_assoc,coC,s8',s9',go_sem];refine hK _ _ (h++ [.mem 1 26 (coC x),.mem 1 31 [jI l],.mem 1 4 [.bool false],O,.mem (qo (some O8)+1) 3 [.int .i64 (f:Int)],.mem (qo (some O9)+1) 3 [.int .i64 (t:Int)]]) (by simp[coC]) (by simp) ?_;simp (disch:=omega) only[List.append_assoc,go_sem]
  repeat' first|with_reducible apply aiA|exact clz|fail
  refine cA (qEe l f t (h.length+4) _ (h.length+5) _ _ ?ka ?kb hl) (by exact flk) ?_
  case ka=>simp only[go_sem]
  case kb=>simp only[go_sem]
  have l8': ∀n,lowO n (.mem (qo (some O8)+1) 3 [.int .i64 (f:Int)]):=λn c hc=>by simp at hc;subst hc;rfl
  have l9': ∀n,lowO n (.mem (qo (some O9)+1) 3 [.int .i64 (t:Int)]):=λn c hc=>by simp at hc;subst hc;rfl
  cases hb:rnB l (f,t)with
  |true=>
   simp (disch:=omega) only[go_sem];refine hN _ _ (h++ [.mem 1 26 (coC x),.mem 1 31 [jI l],.mem 1 4 [.bool false],O,.mem (qo (some O8)+1) 3 [.int .i64 (f:Int)],.mem (qo (some O9)+1) 3 [.int .i64 (t:Int)]]) (by simp[coC]) (by simp) ⟨⟨_,_,rfl,rfl,l8',l9',rfl⟩,λj hj'=> ?_⟩
   by_cases e:j=i
   ·subst e;rw[er];exact hb
   ·exact hj j om
  |false=>
   have hRf:R=false:=by
    rw[hR];cases hc:cvA x l with
    |false=>rfl
    |true=>
     have h2:=List.all_eq_true.1 (hcv.2 hc) (f,t) (by rw[hr,gdqA,zH hi];exact List.getElem_mem hi);rw[hb]at h2;cases h2
   simp (disch:=omega) only[go_sem];refine hR' _ _ (h++ [.mem 1 26 (coC x),.mem 1 31 [jI l],.mem 1 4 [.bool false],O,.mem (qo (some O8)+1) 3 [.int .i64 (f:Int)],.mem (qo (some O9)+1) 3 [.int .i64 (t:Int)]]) (by simp[coC]) (by simp) ⟨rfl,hRf,_,_,l8',l9',rfl⟩
 ·rintro hh ⟨⟨O8,O9,s8,s9,l8,l9,rfl⟩,hj⟩;have hRt:R=true:=by
   rw[hR];refine hcv.1 (List.all_eq_true.2 λr hr=> ?_);obtain⟨j,hj1,rfl⟩:=List.getElem_of_mem hr
   have:=hj j (by rw[hrl];exact hj1)
   rw[gdqA,zH hj1]at this;exact this
  rw[hRt];simp (disch:=omega) only[go_sem]
  repeat' first|exact v7|fail
 ·rintro e hh ⟨rfl,hRf,O8,O9,l8,l9,rfl⟩;rw[hRf];simp (disch:=omega) only[go_sem]
  repeat' first|exact v7|fail
theorem vaP(x:Co)(l:List Un)(h:we)(hz:qfk x)(hu:qoa l)(hp:ku SG h):ACalls Tryz.prog 74 [.agg (coC x),jI l] h (.int .i64 (vaE x l)) h:=by
 have c1:=λl'=>coP x (h++l') hz (hp.app l')
 unfold vaE
 by_cases g:coE x=0
 case neg=>
  have k1:(coE x=0)=False:=eqf g;rw[ipo g];obtain⟨e,he⟩:=wc (coE x)
  rw[<-he]at c1 k1;unfold coC at c1;refine acO qzf ?_;simp (disch:=omega) only[qBQ,coC,go_sem]
  repeat' first|(refine cA (c1 _) flk ?_;simp (disch:=omega) only[k1,go_sem])|exact v7|fail
 rw[ine (λhc=>hc g)];have c2:=λh=>qEQ x l h (qad g) hz.cl hu
 rw[g]at c1;unfold coC at c1 c2;cases g2:rgB x l<;>rw[g2]at c2
 all_goals
  refine acO qzf ?_;simp (disch:=omega) only[qBQ,coC,go_sem]
  repeat' first|((first|refine cA (c1 _) ?_ ?_|refine cA (c2 _) ?_ ?_);exact flk;simp (disch:=omega) only[go_sem])|exact v7|fail
end RC
end
section
open Go Go.Proofs AF
end
section
open Go Go.Proofs AF HY LN
namespace RC
end RC
end
section
open Go Go.Proofs AF
end
section
open Go Go.Proofs AF HY LN
namespace HY
end HY
namespace RC
end RC
end
section
open Go Go.Proofs AF HY LN
namespace RC
end RC
end
section
open Go Go.Proofs AF
end
section
open Go Go.Proofs AF HY LN
namespace RC
deriving instance DecidableEq for Va
deriving instance DecidableEq for En
end RC
end
section
namespace AF
open Go
theorem ACalls.borrowP{P:Program}{f:FuncId}{args:wg}{h:we}{r:AV}{k:Nat}{bs:List Nat}{G:World->Prop}(hk:h[k]? =some (.pin bs G))(hc:ACalls P f (args.map (rei (λ_=>true) h 8)) [.pin bs G] r [.pin bs G])(hr:me r=true):ACalls P f args h r h:=by
 refine⟨hc.1,λw σ xs H hv=> ?_⟩;have hl:k<σ.length:=by rw[H.len];exact (lgs.1 hk).1
 obtain⟨_,q2,q3,q4⟩:=H.obj k _ σ[k] hk (zH hl);have H0:HR w [qdE] [.pin bs G]:=qr2 (λb hb=>(q3 b hb).2) q4;have h0: ∀b,¬own [qdE] b:=λb ⟨k,o,h1,h2⟩=>by
  cases k with
  |zero=>simp at h1;subst h1;cases h2
  |succ k=>simp at h1
 have hv0:VRs w [qdE] (args.map (rei (λ_=>true) h 8)) xs:=⟨by rw[hv.1];simp,λi c x hc hx=>by
  rw[List.getElem?_map,Option.map_eq_some_iff]at hc;obtain⟨c0,hc,rfl⟩:=hc
  exact .imm (qgU H (λb hb=>(h0 b hb).elim) 8 (hv.2 i c0 x hc hx))⟩
 refine (hc.2 w [qdE] xs H0 hv0).mono ?_;rintro e w' ⟨v,σ',rfl,g1,g2,g3⟩;have hg:w.grownBy w' none:=⟨g3.os,g3.tape,g3.output,g3.size,λb hb _=>g3.keep b hb (h0 b)⟩
 obtain⟨k1,k2⟩:=H.grow hg;have h0': ∀b,¬own σ' b:=λb ⟨j,o,h1,h2⟩=>by
  have hlen:σ'.length=1:=by have:=g1.len;simpa using this
  cases j with
  |zero=>
   obtain⟨_,p2,_⟩:=g1.obj 0 _ o rfl h1;rw[p2]at h2;cases h2
  |succ j=>
   have:=(lgs.1 h1).1
   omega
 refine⟨v,σ,rfl,k1,?_,k2⟩
 have: ∀ {v:AV} {x:Value},VR w' σ' v x->me v=true->VI w' (own σ) v x:=by
  intro v x hv
  induction hv with
  |imm h=>exact λhf=>qn2 h hf
  |agg hl h1 h ih=>
   intro hf;simp only[me,j8]at hf;exact .agg hl h1 (λi c x hc hx=>ih i c x hc hx (hf c (List.mem_of_getElem? hc)))
  |tup hl h ih=>
   intro hf;simp only[me,j8]at hf;exact .tup hl (λi c x hc hx=>ih i c x hc hx (hf c (List.mem_of_getElem? hc)))
  |_=>intro hf;cases hf
 exact .imm (this g2 hr)
end AF
end
section
open Go Go.Proofs AF HY LN
namespace RC
theorem qms{Q:World->Prop}{P:Program}{f:FuncId}{args:wg}{h:we}{r:AV}(hp:ku Q h)(hc: ∀h',ku Q h'->ACalls P f (args.map (rei (λ_=>true) h 8)) h' r h')(hr:me r=true):ACalls P f args h r h:=by
 obtain⟨k,bs,G,h1,h2⟩:=hp;exact ACalls.borrowP h1 (hc _ ⟨0,bs,G,rfl,h2⟩) hr
section
variable {q : En -> Bool} {L : List En} {J : Nat}
end
section
variable {k v w : Nat} {h l : we} {ty : TypeId} {cs : wg}
end
theorem qDr(b:List Wd)(h:we)(hn:b.length<=1000000):ACalls Tryz.prog 19 [qee b] h (strs (qhe b)) h:=by
 refine acO qCh ?_;simp (disch:=omega) only[qDu,qee,go_sem];refine qt (T:=λs:Nat×Nat×AObj×AObj=>zg 19 [(6,qee b),(7,.int .i64 b.length),(8,.int .i64 s.1),(3,.osl (h.length+1) s.2.1 1 0 s.1)])
  (H:=λs=>h++ [.emp 1,zw s.2.1 9 (jH (qhe (b.take s.1))),s.2.2.1,s.2.2.2,.emp 0])
  (inv:=λs=>s.1<=b.length∧qH [s.2.2.1] 0=true∧qH [s.2.2.2] 0=true) (m:=λs=>b.length-s.1) (0,1,.emp 0,.emp 0) ⟨nzl _,rfl,rfl⟩ (Wk.temps ?_) ?_
 ·(simp only[qee,go_sem,qh,qf,qb,qg];try exact wa)
 rintro⟨i,v,O1,O2⟩ ⟨i1,i2,i3⟩ K hK;simp only at i1 i2 i3 hK;have i2': ∀m,qH (O1::m) 0=true:=λ_=>i2
 have i3': ∀m,qH (O2::m) 0=true:=λ_=>i3
 have eL:(qhe (b.take i)).length=i:=by unfold qhe;rw[List.length_map,List.length_take];omega
 by_cases hi:i<b.length
 ·have k1:((i:Int)<b.length)=True:=wh;have hS:qhe (b.take (i+1))=qhe (b.take i)++ [(b.getD i default).text]:=by
   unfold qhe;rw[List.take_add_one,zH hi,gdqA,zH hi,List.map_append];rfl
  obtain⟨L,hL⟩:=wc (qhe (b.take i))
  rw[<-hL]at hS eL ⊢;obtain⟨w,hw⟩:=wc (b.getD i default)
  have ew:=hw.symm;rw[ew]at hS;have eC:=cV L;have eTk:List.take i (jH L)=jH L:=ltl om;simp (disch:=omega) only[qee,wdC,k1,ew,i2',i3',eC,eL,eTk,Nat.mul_one,go_sem]
  repeat' first|with_reducible apply aiA|exact clz|fail
  have eA:jH L++ [AV.str w.text]=jH (L++ [w.text]):=by simp[jH]
  have eD:(AV.str w.text::List.drop 1 (zf [AV.str []] 1))= [AV.str w.text]:=rfl;rw[eA,eD];refine hK _ _ (i+1,v+1,.mem (qo (some O1)+1) 133 (wdC w),.mem (qo (some O2)+1) 9 [.str w.text]) ⟨hi,rfl,rfl⟩ (by simp only;omega) ?_;simp only[hS,wdC];refine Wk.temps ?_
  (simp only[qee,wdC,go_sem,qh,qf,qb,qg];try exact wa)
 have k1:((i:Int)<b.length)=False:=wi;obtain rfl:i=b.length:=by omega
 rw[List.take_length]at eL ⊢;simp (disch:=omega) only[k1,go_sem]
 repeat' first|(apply qa;exact rvk;simp only[go_sem])
 exact qdP (λ_=>rfl) eL.symm
def jo(L:List Wd):wg:=L.flatMap wdC
theorem qge(e:Wd):(wdC e).length=7:=rfl
theorem qhk(L:List Wd):(jo L).length=L.length*7:=by
 unfold jo
 induction L with
 |nil=>rfl
 |cons a L ih=>rw[List.flatMap_cons,lap,ih,lco,qge];omega
theorem qrp(A B:List Wd):jo (A++B)=jo A++jo B:=by simp[jo]
theorem qrq(a:Wd):jo [a]=wdC a:=by simp[jo]
theorem qn7(L:List Wd): ∀i,(jo L).drop (i*7)=jo (L.drop i):=by
 induction L with
 |nil=>intro i;simp[jo]
 |cons a L ih=>
  intro i;cases i with
  |zero=>simp
  |succ i=>
   have e:jo (a::L)=wdC a++jo L:=rfl;rw[List.drop_succ_cons,e,List.drop_append,qge,show (i+1)*7-7=i*7 by omega,ih];rw[List.drop_eq_nil_of_le (by rw[qge];omega)];rfl
theorem qhj{L:List Wd}{i:Nat}(hi:i<L.length):((jo L).drop (i*7)).take 7=wdC (L.getD i default):=by
 rw[qn7,List.drop_eq_getElem_cons hi,gdqA,zH hi];rfl
theorem qbQ(L:List Wd)(n:Nat): ∀c∈jo L,qS n c=true:=by
 intro c hc;unfold jo at hc;obtain⟨x,_,hx⟩:=List.mem_flatMap.1 hc;simp only[wdC,List.mem_cons,List.not_mem_nil,or_false]at hx;rcases hx with rfl|rfl|rfl|rfl|rfl|rfl|rfl<;>rfl
section
variable {q : Wd -> Bool} {L : List Wd} {J : Nat}
end
end RC
end
section
open Go Go.Proofs AF
end
section
open Go Go.Proofs AF HY LN
namespace RC
end RC
end
section
open Go Go.Proofs AF
end
section
open Go Go.Proofs AF
end
section
open Go Go.Proofs AF HY LN
namespace RC
end RC
end
section
open Go Go.Proofs AF
end
section
open Go Go.Proofs AF HY LN
namespace RC
end RC
end
section
open Go Go.Proofs AF
end
section
open Go Go.Proofs AF HY LN
namespace RC
theorem qg3(h:we)(L:List Int):qj h (qP L)=some (L.length,qU L):=by
 show some (L.length,_)=_;rw[fmI]
theorem qi3.esE{x:Co}{l:List Un}{d:List Dc}{s:Nat}(h:qi3 x l d s):esE x l d s=0:=by
 have h1:vaE x l=0:=by
  unfold vaE;rw[ine (λhc=>hc h.ca),ine];unfold rgB;rw[h.us,h.cv];simp
 have h2:qbt x l d=0:=by
  unfold qbt;rw[ine (by have:=h.dl;omega)];exact jR.2 h.pl
 have:=h.sl
 have:=h.ln
 unfold RC.esE;rw[h1,h2,ine (by simp),ine om,ine (by simp),ine (by rw[itn];omega)]
end RC
end
