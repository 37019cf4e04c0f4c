import Derived.Test.YtmieflnoheifbaaGreatDoorK18
import Derived.Test.YtmieflnoheifbaaGreatDoorK16
import Derived.Test.YtmieflnoheifbaaGreatDoorK17
import Derived.Test.YtmieflnoheifbaaGreatDoorK15
import Derived.Test.YtmieflnoheifbaaGreatDoorK3
import Derived.Test.YtmieflnoheifbaaGreatDoorK5
import Derived.Test.YtmieflnoheifbaaGreatDoorK8
import Derived.Test.YtmieflnoheifbaaGreatDoorProg
import Derived.Test.YtmieflnoheifbaaGreatDoorK10
set_option linter.all false
set_option maxHeartbeats 256000000
set_option maxRecDepth 100000
section
open Go Go.Proofs AF HY LN
namespace RC
theorem qr0(x:Co)(g:Str)(h:wh)(hn:x.sig.length<=1000000000):ACalls Tryz.prog 97 [.agg (coC x),.str g] h (.int .i64 (qX x g)) h:=by
 have z0:strs x.sig= .sl x.sig.length λj=> [.str (x.sig.getD j [])]:=rfl
 have z1: ∀g,valL g .len [strs x.sig]= .int .i64 x.sig.length:=λ_=>rfl
 have z2: ∀g,okL g .len [strs x.sig]=True:=λ_=>eqt trivial
 obtain⟨R,hR⟩:=wg (qX x g)
 rw[<-hR];unfold qX at hR;refine acO qDu ?_;simp (disch:=omega) only[qEU,coC,go_sem];refine qk (T:=λi:Nat=>qP 21 [(1,.str g),(2,.op h.length 1 0),(5,.int .i64 (i:Int))]) (H:=λ_=>h++ [.mem 1 26 (coC x)])
  (inv:=λi=>i<=x.sig.length∧ ∀j,j<i->decide (g=x.sig.getD j [])=false) (m:=λi=>x.sig.length-i) 0 ⟨nzl _,λj hj=>absurd hj (nnz j)⟩ (Wk.temps ?_) ?_
 ·(simp only[go_sem,qf,qc,qa,qe];try exact we)
 rintro i ⟨i1,i2⟩ K hK
 by_cases hi:i<x.sig.length
 ·have k1:((i:Int)<x.sig.length)=True:=wj;have k2:(0<=(i:Int))=True:=wj;have hst:=λhp=>jD (p:=λj=>decide (g=x.sig.getD j [])) (i:=i) i2 hp
  obtain⟨y,hy⟩:=wg (x.sig.getD i [])
  have ey:=hy.symm
  by_cases e:y=g
  ·have k3:(y=g)=True:=eqt e;rw[hR,kW (p:=λj=>decide (g=x.sig.getD j [])) hi i2 (dqt (by rw[ey];exact e.symm))];simp (disch:=omega) only[coC,z0,k1,k2,k3,ey,go_sem]
   repeat' first|exact wa|with_reducible apply aiA|exact clz|fail
  ·have k3:(y=g)=False:=eqf e;simp (disch:=omega) only[coC,z0,k1,k2,k3,ey,go_sem]
   repeat' first|with_reducible apply aiA|exact clz|fail
   refine hK _ _ (i+1) ⟨hi,hst (dqf (by rw[ey];exact λq=>e q.symm))⟩ om ?_;simp only[coC];refine Wk.temps ?_
   (simp only[go_sem,qf,qc,qa,qe];try exact we)
 have k1:((i:Int)<x.sig.length)=False:=wl;obtain rfl:i=x.sig.length:=by omega
 rw[hR,f0 (p:=λj=>decide (g=x.sig.getD j [])) i2];simp (disch:=omega) only[coC,z0,k1,go_sem]
 repeat' first|exact wa|fail
theorem qr4(l:List Un)(c:Int)(h:wh)(hn:l.length<=1000000000):ACalls Tryz.prog 86 [qZ l,.int .i64 c] h (.int .i64 (fnU l c)) h:=by
 have z0:qZ l= .sl l.length λj=>unC (l.getD j default):=rfl
 have z1: ∀g,valL g .len [qZ l]= .int .i64 l.length:=λ_=>rfl
 have z2: ∀g,okL g .len [qZ l]=True:=λ_=>eqt trivial
 obtain⟨R,hR⟩:=wg (fnU l c)
 rw[<-hR];unfold fnU at hR;obtain⟨p,hp⟩: ∃p:Nat->Bool,p=λi=>decide ((l.getD i default).frm<=c)&&decide (c<(l.getD i default).to):=⟨_,rfl⟩
 have hpe: ∀i,p i=(decide ((l.getD i default).frm<=c)&&decide (c<(l.getD i default).to)):=λi=>by rw[hp]
 rw[<-hp]at hR;refine acO qDn ?_;simp (disch:=omega) only[qEN,go_sem];refine qk (T:=λi:Nat=>qP 29 [(0,qZ l),(1,.int .i64 c),(5,.int .i64 (i:Int))]) (H:=λ_=>h)
  (inv:=λi=>i<=l.length∧ ∀j,j<i->p j=false) (m:=λi=>l.length-i) 0 ⟨nzl _,λj hj=>absurd hj (nnz j)⟩ (Wk.temps ?_) ?_
 ·(simp only[go_sem,qf,qc,qa,qe];try exact we)
 rintro i ⟨i1,i2⟩ K hK
 by_cases hi:i<l.length
 ·have k1:((i:Int)<l.length)=True:=wj;have k2:(0<=(i:Int))=True:=wj;have hst:=λhp=>jD (p:=p) (i:=i) i2 hp
  have hpi:=hpe i;obtain⟨y,hy⟩:=wg (l.getD i default)
  have ey:=hy.symm;rw[ey]at hpi
  by_cases e1:y.frm<=c
  ·have k3:(y.frm<=c)=True:=eqt e1
   by_cases e2:c<y.to
   ·have k4:(c<y.to)=True:=eqt e2;rw[hR,kW (p:=p) hi i2 (by rw[hpi,dqt e1,dqt e2];rfl)];simp (disch:=omega) only[z0,unC,k1,k2,ey,go_sem]
    repeat' first|exact wc|(with_reducible first|intro _|apply aiA)|exact clz|fail
   ·have k4:(c<y.to)=False:=eqf e2;simp (disch:=omega) only[z0,unC,k1,k2,ey,go_sem]
    repeat' first|(apply qh;exact rvk;simp only[go_sem];apply qg)|(with_reducible first|intro _|apply aiA)|exact clz|fail
    refine hK _ _ (i+1) ⟨hi,hst (by rw[hpi,dqf e2,Bool.and_false])⟩ om (Wk.temps ?_)
    (simp only[z0,unC,go_sem,qf,qc,qa,qe];try exact we)
  ·have k3:(y.frm<=c)=False:=eqf e1;simp (disch:=omega) only[z0,unC,k1,k2,ey,go_sem]
   repeat' first|(apply qh;exact rvk;simp only[go_sem];apply qg)|(with_reducible first|intro _|apply aiA)|exact clz|fail
   refine hK _ _ (i+1) ⟨hi,hst (by rw[hpi,dqf e1,Bool.false_and])⟩ om (Wk.temps ?_)
   (simp only[z0,unC,go_sem,qf,qc,qa,qe];try exact we)
 have k1:((i:Int)<l.length)=False:=wl;obtain rfl:i=l.length:=by omega
 rw[hR,f0 (p:=p) i2];simp (disch:=omega) only[z0,k1,go_sem]
 repeat' first|exact wc|fail
def plN(x:Co)(l:List Un)(s:Nat)(t:Int):Int:=if kD x s t<0 then-1 else fnU l (kD x s t)
theorem qrS(x:Co)(l:List Un)(s:Nat)(t:Int)(h:wh)(ho:CoOk x)(hs:s<x.sig.length)(hc:x.col.length<=1000000000)(hn:l.length<=1000000000):ACalls Tryz.prog 96 [.agg (coC x),qZ l,.int .i64 (s:Int),.int .i64 t] h (.int .i64 (plN x l s t)) h:=by
 have z0:qv x.col= .sl x.col.length λj=> [qx (x.col.getD j [])]:=rfl
 have z1: ∀g,valL g .len [qv x.col]= .int .i64 x.col.length:=λ_=>rfl
 have z2: ∀g,okL g .len [qv x.col]=True:=λ_=>eqt trivial
 have k0:(0<=(s:Int))=True:=wj;obtain⟨p,hp⟩: ∃p:Nat->Bool,p=λk=>decide ((x.col.getD k []).getD s 0=t):=⟨_,rfl⟩
 have hpe: ∀i,p i=decide ((x.col.getD i []).getD s 0=t):=λi=>by rw[hp]
 have hR:kD x s t=qbE p x.col.length 0:=by unfold kD;rw[hp]
 refine acO qDt ?_;simp (disch:=omega) only[qET,coC,go_sem];refine qk (T:=λi:Nat=>qP 30 [(1,qZ l),(2,.int .i64 (s:Int)),(3,.int .i64 t),(4,.op h.length 1 0),(9,.int .i64 (i:Int))]) (H:=λ_=>h++ [.mem 1 26 (coC x)])
  (inv:=λi=>i<=x.col.length∧ ∀j,j<i->p j=false) (m:=λi=>x.col.length-i) 0 ⟨nzl _,λj hj=>absurd hj (nnz j)⟩ (Wk.temps ?_) ?_
 ·(simp only[go_sem,qf,qc,qa,qe];try exact we)
 rintro i ⟨i1,i2⟩ K hK
 by_cases hi:i<x.col.length
 ·have k1:((i:Int)<x.col.length)=True:=wj;have k2:(0<=(i:Int))=True:=wj;have hst:=λhp=>jD (p:=p) (i:=i) i2 hp
  have hpi:=hpe i;have hcl:=ho.cl i hi;have c3:=λh=>qr4 l (i:Int) h hn
  obtain⟨r,hr⟩:=wg (x.col.getD i [])
  have er:=hr.symm;rw[er]at hpi hcl;have k3:((s:Int)<r.length)=True:=wj;have zr:qx r= .sl r.length λj=> [.int .i64 (r.getD j 0)]:=rfl
  obtain⟨y,hy⟩:=wg (r.getD s 0)
  have ey:=hy.symm;rw[ey]at hpi
  by_cases e:y=t
  ·have k4:(y=t)=True:=eqt e;have hV:plN x l s t=fnU l (i:Int):=by
    unfold plN;rw[hR,kW (p:=p) hi i2 (by rw[hpi,dqt e]),ine om]
   rw[hV];simp (disch:=omega) only[coC,z0,zr,k0,k1,k2,k3,er,ey,go_sem]
   repeat' first|(refine cA (c3 _) flk ?_;simp (disch:=omega) only[k4,go_sem])|exact wa|(with_reducible first|intro _|apply aiA)|exact clz|fail
  ·have k4:(y=t)=False:=eqf e;simp (disch:=omega) only[coC,z0,zr,k0,k1,k2,k3,er,ey,go_sem]
   repeat' first|(with_reducible first|intro _|apply aiA)|exact clz|fail
   refine hK _ _ (i+1) ⟨hi,hst (by rw[hpi,dqf e])⟩ om ?_;simp only[coC];refine Wk.temps ?_
   (simp only[go_sem,qf,qc,qa,qe];try exact we)
 have k1:((i:Int)<x.col.length)=False:=wl;obtain rfl:i=x.col.length:=by omega
 have hV:plN x l s t= -1:=by
  unfold plN;rw[hR,f0 (p:=p) i2,ipo om]
 rw[hV];simp (disch:=omega) only[coC,z0,k1,go_sem]
 repeat' first|exact wa|with_reducible apply aiA|exact clz|fail
theorem qBs(x:Co)(l:List Un)(h:wh)(hz:qbd x)(hu:qcS l)(hp:cb SG h):ACalls Tryz.prog 84 [.agg (coC x),qZ l] h (.int .i64 (vaE x l)) h:=by
 have c1:=λl'=>coR x (h++l') hz (hp.app l')
 have c2:=λl'=>qEd x l (h++l') hz hu (hp.app l')
 have hE:vaE x l=(if coE x≠0 then 1 else if rgB x l=false then 20 else 0):=rfl
 by_cases g:coE x=0
 case neg=>
  have k1:(coE x=0)=False:=eqf g;rw[ipo g]at hE;rw[hE];unfold coC at c1;refine acO qts ?_;simp (disch:=omega) only[qCf,coC,go_sem]
  repeat' first|(refine cA (c1 _) flk ?_;simp (disch:=omega) only[k1,go_sem])|exact wa|fail
 rw[ine (by simpa using g)]at hE;simp only[g]at c1
 by_cases g2:rgB x l=false
 ·rw[ipo g2]at hE;rw[hE];simp only[hE]at c2;unfold coC at c1 c2;refine acO qts ?_;simp (disch:=omega) only[qCf,coC,go_sem]
  repeat' first|((first|refine cA (c1 _) ?_ ?_|refine cA (c2 _) ?_ ?_);exact flk;simp (disch:=omega) only[go_sem])|(apply qb;exact rvk;simp only[go_sem];first|exact qi|apply qg)|(with_reducible first|intro _|apply aiA)|exact clz|fail
 ·rw[ine g2]at hE;rw[hE];simp only[hE]at c2;unfold coC at c1 c2;refine acO qts ?_;simp (disch:=omega) only[qCf,coC,go_sem]
  repeat' first|((first|refine cA (c1 _) ?_ ?_|refine cA (c2 _) ?_ ?_);exact flk;simp (disch:=omega) only[go_sem])|exact wa|fail
theorem qqx{x:Co}{g:Str}{S:Nat}(h:qX x g=S):S<x.sig.length:=by
 rcases zE (λj=>decide (g=x.sig.getD j [])) x.sig.length with⟨i,q1,_,_,q4⟩|⟨_,q2⟩
 ·have e:qX x g=i:=q4;omega
 ·have e:qX x g= -1:=q2;omega
theorem qxH(x:Co)(l:List Un)(o:Dc)(h:wh)(hz:qbd x)(hu:qcS l)(h1:coE x=0)(ht:o.txt.length<=1000):ACalls Tryz.prog 98 [.agg (coC x),qZ l,.agg (dcC o)] h (.int .i64 (qao x l o)) h:=by
 have ho:=qag h1;have hE:qao x l o=(if o.kind<1∨3<o.kind then 8 else if o.txt≠ []∧o.kind≠2 then 1 else if tkB x o=false then 6 else if kQ x l o<0 then 20 else cjE o):=rfl;have htk:tkB x o=(decide (0<=qX x o.sig)&&(decide (0<=o.tok)&&decide (o.tok<((x.tok.getD (qX x o.sig).toNat []).length:Int)))):=rfl;have c1:=λh=>qr0 x o.sig h hz.sg
 unfold coC at c1;have hs:(o.kind=2∨(o.kind=1∨o.kind=3)∧o.txt= [])->qao x l o=(if tkB x o=false then 6 else if kQ x l o<0 then 20 else cjE o):=λhk=>by
  rw[hE,ine om,ine (λe=>hk.elim e.2 (λk=>e.1 k.2))]
 by_cases g2:o.kind=2
 case' neg=>
  have q2:(o.kind=2)=False:=eqf g2
  by_cases gk:o.kind<1∨3<o.kind
  ·have q1:(o.kind=1)=False:=wl;have q3:(o.kind=3)=False:=wl;rw[ipo gk]at hE;rw[hE];refine acO qcI ?_;simp (disch:=omega) only[qj3,coC,dcC,q1,q2,q3,go_sem]
   repeat' first|exact wa|fail
  have q0:(o.kind=1)=True∧(o.kind=3)=False∨(o.kind=1)=False∧(o.kind=3)=True:=by
   by_cases g1:o.kind=1
   ·exact .inl ⟨eqt g1,eqf om⟩
   ·exact .inr ⟨eqf g1,eqt om⟩
  by_cases ge:o.txt= []
  case neg=>
   have k3:(o.txt= [])=False:=eqf ge;rw[ine gk,ipo ⟨ge,g2⟩]at hE;rw[hE];rcases q0 with⟨q1,q3⟩|⟨q1,q3⟩
   all_goals
    refine acO qcI ?_;simp (disch:=omega) only[qj3,coC,dcC,q1,q2,q3,k3,go_sem]
    repeat' first|exact wa|with_reducible apply aiA|exact clz|fail
  have k3:(o.txt= [])=True:=eqt ge;have hE:=hs (.inr ⟨om,ge⟩);rcases q0 with⟨q1,q3⟩|⟨q1,q3⟩
 case' pos=>
  have q1:(o.kind=1)=False:=wl;have q2:(o.kind=2)=True:=eqt g2;have q3:(o.kind=3)=False:=wl;have hE:=hs (.inl g2)
  by_cases ge:o.txt= []
  case' pos=>have k3:(o.txt= [])=True:=eqt ge
  case' neg=>have k3:(o.txt= [])=False:=eqf ge
 all_goals
  by_cases g5:qX x o.sig<0
  ·have k5:(qX x o.sig<0)=True:=eqt g5;rw[dqf om,Bool.false_and]at htk;rw[ipo htk]at hE;rw[hE];refine acO qcI ?_;simp (disch:=omega) only[qj3,coC,dcC,q1,q2,q3,k3,go_sem]
   repeat' first|(refine cA (c1 _) flk ?_;simp (disch:=omega) only[k5,go_sem])|exact wa|with_reducible apply aiA|exact clz|fail
  obtain⟨S,hSn⟩: ∃S:Nat,qX x o.sig=S:=⟨(qX x o.sig).toNat,om⟩
  have hSl:S<x.sig.length:=qqx hSn;have k5:((S:Int)<0)=False:=wl;have k0:(0<=(S:Int))=True:=wj;have k01:((S:Int)<x.tok.length)=True:=eqt (by have:=ho.tn;omega);rw[hSn,dqt om,Bool.true_and,itn]at htk;simp only[hSn]at c1;have c2:=λh=>qrS x l S o.tok h ho hSl hz.cl (by have:=hu.n;omega)
  have hcn:=λa b=>qaG (t:=o.tok) ho hSl a b
  obtain⟨tl,htl⟩: ∃t,t=x.tok.getD S []:=⟨_,rfl⟩
  have el:=htl.symm;rw[el]at htk hcn;have zt1: ∀g,valL g .len [zy tl]= .int .i64 tl.length:=λ_=>rfl
  have zt2: ∀g,okL g .len [zy tl]=True:=λ_=>eqt trivial
  by_cases g60:o.tok<0
  ·have k6:(o.tok<0)=True:=eqt g60;rw[dqf om,Bool.false_and]at htk;rw[ipo htk]at hE;rw[hE];refine acO qcI ?_;simp (disch:=omega) only[qj3,coC,dcC,q1,q2,q3,k3,qn,go_sem]
   repeat' first|(refine cA (c1 _) flk ?_;simp (disch:=omega) only[k5,k0,k01,k6,el,zt1,zt2,go_sem])|exact wa|with_reducible apply aiA|exact clz|fail
  have k6:(o.tok<0)=False:=eqf g60;rw[dqt om,Bool.true_and]at htk
  by_cases g61:(tl.length:Int)<=o.tok
  ·have k7:((tl.length:Int)<=o.tok)=True:=eqt g61;rw[dqf om]at htk;rw[ipo htk]at hE;rw[hE];refine acO qcI ?_;simp (disch:=omega) only[qj3,coC,dcC,q1,q2,q3,k3,qn,go_sem]
   repeat' first|(refine cA (c1 _) flk ?_;simp (disch:=omega) only[k5,k0,k01,k6,k7,el,zt1,zt2,go_sem])|exact wa|with_reducible apply aiA|exact clz|fail
  have k7:((tl.length:Int)<=o.tok)=False:=eqf g61;rw[dqt om]at htk;rw[ine (by rw[htk];decide)]at hE;have hcn:=hcn om om;have hpl:plN x l S o.tok=kQ x l o:=by unfold plN kQ;rw[ine om,hSn,itn]
  simp only[hpl]at c2;obtain⟨p,hpp⟩:=wg (kQ x l o)
  rw[<-hpp]at hE;simp only[<-hpp]at c2;unfold coC at c2
  by_cases g7:p<0
  ·have k8:(p<0)=True:=eqt g7;rw[ipo g7]at hE;rw[hE];refine acO qcI ?_;simp (disch:=omega) only[qj3,coC,dcC,q1,q2,q3,k3,qn,go_sem]
   repeat' first|((first|refine cA (c1 _) ?_ ?_|refine cA (c2 _) ?_ ?_);exact flk;simp (disch:=omega) only[q2,k5,k0,k01,k6,k7,el,zt1,zt2,k8,go_sem])|exact wa|with_reducible apply aiA|exact clz|fail
  have k8:(p<0)=False:=eqf g7;rw[ine g7]at hE;unfold cjE at hE
  by_cases gq:o.kind=2
  case neg=>
   rw[ine gq]at hE;rw[hE]
   try exact absurd g2 gq
   all_goals
    refine acO qcI ?_;simp (disch:=omega) only[qj3,coC,dcC,q1,q2,q3,k3,qn,go_sem]
    repeat' first|((first|refine cA (c1 _) ?_ ?_|refine cA (c2 _) ?_ ?_);exact flk;simp (disch:=omega) only[q2,k5,k0,k01,k6,k7,el,zt1,zt2,k8,go_sem])|exact wa|with_reducible apply aiA|exact clz|fail
  rw[ipo gq]at hE;have c4:=λh=>qBf o.txt h ht
  by_cases g8:qd2 o.txt=0
  case neg=>
   have k9:(qd2 o.txt=0)=False:=eqf g8;rw[ipo g8]at hE;rw[hE]
   try exact absurd gq g2
   all_goals
    refine acO qcI ?_;simp (disch:=omega) only[qj3,coC,dcC,q1,q2,q3,k3,qn,go_sem]
    repeat' first|((first|refine cA (c1 _) ?_ ?_|refine cA (c2 _) ?_ ?_|refine cA (c4 _) ?_ ?_);exact flk;simp (disch:=omega) only[q2,k5,k0,k01,k6,k7,el,zt1,zt2,k8,k9,go_sem])|exact wa|with_reducible apply aiA|exact clz|fail
  rw[ine (by simpa using g8)]at hE;simp only[g8]at c4;cases hL:qfm o.txt with
  |nil=>
   rw[hL]at hE c4;rw[ipo rfl]at hE;rw[hE]
   try exact absurd gq g2
   all_goals
    refine acO qcI ?_;simp (disch:=omega) only[qj3,coC,dcC,q1,q2,q3,k3,qn,strs,go_sem]
    repeat' first|((first|refine cA (c1 _) ?_ ?_|refine cA (c2 _) ?_ ?_|refine cA (c4 _) ?_ ?_);exact flk;simp (disch:=omega) only[q2,k5,k0,k01,k6,k7,el,zt1,zt2,k8,strs,go_sem])|(apply qb;exact rvk;simp only[go_sem];first|exact qi|apply qg)|(with_reducible first|intro _|apply aiA)|exact clz|fail
  |cons a r=>
   rw[hL]at hE c4;rw[ine (by simp)]at hE;rw[hE];have k9:(((a::r).length:Int)=0)=False:=eqf (by simp;omega)
   try exact absurd gq g2
   all_goals
    refine acO qcI ?_;simp (disch:=omega) only[qj3,coC,dcC,q1,q2,q3,k3,qn,strs,go_sem]
    repeat' first|((first|refine cA (c1 _) ?_ ?_|refine cA (c2 _) ?_ ?_|refine cA (c4 _) ?_ ?_);exact flk;simp (disch:=omega) only[q2,k5,k0,k01,k6,k7,el,zt1,zt2,k8,strs,go_sem])|(apply qb;exact rvk;simp only[go_sem];first|exact qi|apply qg)|(with_reducible first|intro _|apply aiA)|exact clz|fail
theorem qxG(x:Co)(l:List Un)(d:List Dc)(h:wh)(hz:qbd x)(hu:qcS l)(h1:coE x=0)(hd:d.length<=1000000)(ht: ∀o∈d,o.txt.length<=1000):ACalls Tryz.prog 85 [.agg (coC x),qZ l,kz d] h (.int .i64 (UY x l d)) h:=by
 have z0:kz d= .sl d.length λi=>dcC (d.getD i default):=rfl
 have z1: ∀g,valL g .len [kz d]= .int .i64 d.length:=λ_=>rfl
 have z2: ∀g,okL g .len [kz d]=True:=λ_=>eqt trivial
 by_cases g:256<d.length
 ·have k1:((256:Int)<d.length)=True:=wj;have hE:UY x l d=4:=by unfold UY;rw[ipo g]
  rw[hE];refine acO qzM ?_;simp (disch:=omega) only[qCG,coC,z1,z2,k1,go_sem]
  repeat' first|exact wa|fail
 have k1:((256:Int)<d.length)=False:=wl;have hE:UY x l d=qah (λi=>qao x l (d.getD i default)) 0 d.length:=by unfold UY;rw[ine g]
 rw[hE];refine acO qzM ?_;simp (disch:=omega) only[qCG,coC,z1,z2,k1,go_sem];refine qk (T:=λi:Nat=>qP 28 [(1,qZ l),(2,kz d),(3,.op h.length 1 0),(7,.int .i64 (i:Int))]) (H:=λ_=>h++ [.mem 1 26 (coC x)])
  (inv:=λi=>i<=d.length∧ ∀j,j<i->qao x l (d.getD j default)=0) (m:=λi=>d.length-i) 0 ⟨nzl _,λj hj=>absurd hj (nnz j)⟩ (Wk.temps ?_) ?_
 ·(simp only[go_sem,qf,qc,qa,qe];try exact we)
 rintro i ⟨i1,i0⟩ K hK
 by_cases hi:i<d.length
 ·have k2:((i:Int)<d.length)=True:=wj;have k3:(0<=(i:Int))=True:=wj;obtain⟨o,ho⟩:=wg (d.getD i default)
  have eo:=ho.symm;have hom:o∈d:=by rw[ho];exact zS hi
  have c1:=λh=>qxH x l o h hz hu h1 (ht o hom)
  by_cases g3:qao x l o=0
  case neg=>
   have k4:(qao x l o=0)=False:=eqf g3;have hf:qah (λi=>qao x l (d.getD i default)) 0 d.length=qao x l o:=by
    rw[Ux hi i0 (by rw[eo];exact g3),eo]
   rw[hf];unfold coC dcC at c1;simp (disch:=omega) only[coC,z0,dcC,k2,k3,eo,go_sem]
   repeat' first|(refine cA (c1 _) flk ?_;simp (disch:=omega) only[k4,go_sem])|exact wa|fail
  simp only[g3]at c1;unfold coC dcC at c1;simp (disch:=omega) only[coC,z0,dcC,k2,k3,eo,go_sem]
  repeat' first|(refine cA (c1 _) flk ?_;simp (disch:=omega) only[go_sem])
  refine hK _ _ (i+1) ⟨hi,λj hj=> ?_⟩ om ?_
  ·by_cases e:j=i
   ·rw[e,eo];exact g3
   ·exact i0 j om
  simp only[coC];refine Wk.temps ?_
  (simp only[z0,dcC,go_sem,qf,qc,qa,qe];try exact we)
 have k2:((i:Int)<d.length)=False:=wl;obtain rfl:i=d.length:=by omega
 have hf:qah (λi=>qao x l (d.getD i default)) 0 d.length=0:=jO i0;rw[hf];simp (disch:=omega) only[z1,z2,k2,go_sem]
 repeat' first|exact wa|fail
theorem qAL(b:List Wd)(k:Int)(h:wh)(hn:b.length<=1000000):ACalls Tryz.prog 94 [kq b,.int .i64 k] h (strs (owG b k b.length)) h:=by
 have z0:kq b= .sl b.length λi=>wdC (b.getD i default):=rfl
 have z1: ∀g,valL g .len [kq b]= .int .i64 b.length:=λ_=>rfl
 have z2: ∀g,okL g .len [kq b]=True:=λ_=>eqt trivial
 refine acO qDs ?_;simp (disch:=omega) only[qES,go_sem];refine qk (T:=λs:Nat×Nat×AObj=>qP 30 [(0,kq b),(1,.int .i64 k),(5,.osl (h.length+1) s.2.1 1 0 (owG b k s.1).length),(6,.int .i64 s.1)])
  (H:=λs=>h++ [.emp 1,AObj.mem s.2.1 9 (jF (owG b k s.1)),s.2.2,.emp 0])
  (inv:=λs=>s.1<=b.length∧qz [s.2.2] 0=true) (m:=λs=>b.length-s.1) (0,1,.emp 0) ⟨nzl _,rfl⟩ (Wk.temps ?_) ?_
 ·(simp only[owG,go_sem,qf,qc,qa,qe];try exact we)
 rintro⟨i,v,O2⟩ ⟨i1,i3⟩ K hK;simp only at i1 i3 hK;have i3': ∀m,qz (O2::m) 0=true:=λ_=>i3
 have hol:=qlQ b k i
 by_cases hi:i<b.length
 ·have k1:((i:Int)<b.length)=True:=wj;have k2:(0<=(i:Int))=True:=wj;have hS:owG b k (i+1)=owG b k i++if (b.getD i default).unit=k then [(b.getD i default).text] else []:=rfl
  obtain⟨L,hL⟩:=wg (owG b k i)
  rw[<-hL]at hS hol ⊢;obtain⟨w,hw⟩:=wg (b.getD i default)
  have ew:=hw.symm;rw[ew]at hS;have eC:=jG L;have eTk:List.take L.length (jF L)=jF L:=ltl om
  by_cases g:w.unit=k
  ·have q1:(w.unit=k)=True:=eqt g;rw[ipo g]at hS;simp (disch:=omega) only[z0,wdC,k1,k2,ew,i3',q1,eC,eTk,Nat.mul_one,go_sem]
   repeat' first|with_reducible apply aiA|exact clz|fail
   have eA:jF L++ [AV.str w.text]=jF (L++ [w.text]):=by simp[jF]
   try rw[eA]
   refine hK _ _ (i+1,v+1,.mem (qo (some O2)+1) 9 [.str w.text]) ⟨hi,rfl⟩ (by simp only;omega) ?_;simp only[hS,lap,lco,lnl];refine Wk.temps ?_
   (simp only[z0,wdC,go_sem,qf,qc,qa,qe];try exact we)
  ·have q1:(w.unit=k)=False:=eqf g;rw[ine g,lan]at hS;simp (disch:=omega) only[z0,wdC,k1,k2,ew,i3',q1,go_sem];refine hK _ _ (i+1,v,O2) ⟨hi,i3⟩ (by simp only;omega) ?_;simp only[hS];refine Wk.temps ?_
   (simp only[z0,wdC,go_sem,qf,qc,qa,qe];try exact we)
 have k1:((i:Int)<b.length)=False:=wl;obtain rfl:i=b.length:=by omega
 simp (disch:=omega) only[k1,z1,z2,go_sem]
 repeat' first|(apply qb;exact rvk;simp only[go_sem])
 rw[ipo (by rw[jG];exact nlr _)];exact qd3 _ (λ_=>rfl) rfl
end RC
end
section
open Go Go.Proofs AF
end
section
open Go Go.Proofs AF HY LN
namespace RC
theorem qGE(h:wh):ACalls Tryz.prog 351 [.int .i64 1] h (.bool true) h:=by
 refine acO qzq ?_;simp (disch:=omega) only[qxk,go_sem]
 repeat' first|exact wc|fail
theorem qF6(h:wh):ACalls Tryz.prog 352 [.int .i64 1] h (.bool false) h:=by
 refine acO qzr ?_;simp (disch:=omega) only[qxl,go_sem]
 repeat' first|exact wc|fail
theorem qF7(h:wh):ACalls Tryz.prog 353 [.int .i64 1] h (.bool false) h:=by
 refine acO qzs ?_;simp (disch:=omega) only[qxm,go_sem]
 repeat' first|exact wc|fail
theorem qGn(s:Str)(dp mo:Int)(h:wh)(hm:1<=mo):ACalls Tryz.prog 295 [zY s,.int .i64 dp,.int .i64 mo] h (.tup [.int .i64 1,.int .i64 0,.bool true]) h:=by
 have z0:zY s= .sl 1 λ_=>ndC s:=rfl
 have z1: ∀g,valL g .len [zY s]= .int .i64 1:=λ_=>rfl
 have z2: ∀g,okL g .len [zY s]=True:=λ_=>eqt trivial
 have zf1:(zY s).flag=true:=rfl;have zf2:(zY s).strip=zY s:=rfl;have k1:(mo<1)=False:=wl;refine acO qy8 ?_;simp (disch:=omega) only[qw4,go_sem];refine qk (T:=λn:Nat=>qP 61 [(0,zY s),(1,.int .i64 dp),(2,.int .i64 mo),(9,.int .i64 (n:Int)),(10,.int .i64 0),(11,.int .i64 (n:Int))]) (H:=λ_=>h) (inv:=λn=>n<=1) (m:=λn=>1-n) 0 (nzl _) (Wk.temps ?_) ?_
 ·(simp only[go_sem,qf,qc,qa,qe];try exact we)
 intro n n1 K hK
 by_cases hn:n=0
 ·subst hn;have q0:(((0:Nat):Int)<1)=True:=wj;simp (disch:=omega) only[z0,ndC,Int.ofNat_zero,go_sem]
  repeat' first|(apply qh;exact rvk;simp only[go_sem])|(with_reducible first|intro _|apply aiA)|exact clz|fail
  refine hK _ _ 1 (nlr _) om (Wk.temps ?_)
  (simp only[z0,ndC,go_sem,qf,qc,qa,qe];try exact we)
 obtain rfl:n=1:=by omega
 have q0:(((1:Nat):Int)<1)=False:=wl;simp (disch:=omega) only[z1,z2,zf1,zf2,q0,go_sem]
 repeat' first|exact wc|fail
theorem qGm(s:Str)(w:Bool)(h:wh)(hl:s.length<=1000000)(hs:s≠ [])(hc:zz s=0):ACalls Tryz.prog 349 [.agg (ndC s),.bool false,.bool w] h (.int .i64 0) h:=by
 have k1:(s= [])=False:=eqf hs;have c1:=λh=>qGE h
 have c2:=λh=>qF6 h
 have c3:=λh=>qF7 h
 have c4:=λh=>qD6 s h om
 rw[hc]at c4;refine acO qzp ?_;simp (disch:=omega) only[qxj,ndC,k1,go_sem]
 repeat' first|(refine qj ( .bool false) ?_;simp (disch:=omega) only[k1,go_sem])|((first|refine cG (λe=>c1 _) ?_ ?_|refine cG (λe=>c3 _) ?_ ?_|refine cA (c4 _) ?_ ?_);exact flk;simp (disch:=omega) only[go_sem])|(apply qb;exact rvk;simp only[go_sem];first|exact qi|apply qg)|(with_reducible first|intro _|apply aiA)|exact clz|fail
theorem qFl(w:Bool)(h:wh):ACalls Tryz.prog 296 [.nl,.bool w] h (.int .i64 0) h:=by
 refine acO qrz ?_;simp (disch:=omega) only[qsC,go_sem];refine qk (T:=λ_:Unit=>qP 43 [(0,.nl),(1,.bool w),(5,.int .i64 0)]) (H:=λ_=>h) (inv:=λ_=>True) (m:=λ_=>0) () trivial (Wk.temps ?_) ?_
 ·(simp only[go_sem,qf,qc,qa,qe];try exact we)
 rintro⟨⟩-K hK;have q0:((0:Int)<0)=False:=wl;simp (disch:=omega) only[q0,go_sem]
 repeat' first|exact wc|fail
theorem qvT(s:Str)(h:wh)(hl:s.length<=1000000)(hs:s≠ [])(hc:zz s=0):ACalls Tryz.prog 296 [zY s,.bool false] h (.int .i64 0) h:=by
 have z0:zY s= .sl 1 λ_=>ndC s:=rfl
 have z1: ∀g,valL g .len [zY s]= .int .i64 1:=λ_=>rfl
 have z2: ∀g,okL g .len [zY s]=True:=λ_=>eqt trivial
 have zf1:(zY s).flag=true:=rfl;have zf2:(zY s).strip=zY s:=rfl;have c1:=λh=>qGm s false h hl hs hc
 have c2:=λh=>qFl true h
 unfold ndC at c1;refine acO qrz ?_;simp (disch:=omega) only[qsC,go_sem];refine qk (T:=λn:Nat=>qP 43 [(0,zY s),(1,.bool false),(5,.int .i64 (n:Int))]) (H:=λ_=>h) (inv:=λn=>n<=1) (m:=λn=>1-n) 0 (nzl _) (Wk.temps ?_) ?_
 ·(simp only[go_sem,qf,qc,qa,qe];try exact we)
 intro n n1 K hK
 by_cases hn:n=0
 ·subst hn;have q0:(((0:Nat):Int)<1)=True:=wj;simp (disch:=omega) only[z0,ndC,Int.ofNat_zero,go_sem]
  repeat' first|((first|refine cA (c1 _) ?_ ?_|refine cA (c2 _) ?_ ?_);exact flk;simp (disch:=omega) only[go_sem])|exact wc|(with_reducible first|intro _|apply aiA)|exact clz|fail
  refine hK _ _ 1 (nlr _) om (Wk.temps ?_)
  (simp only[z0,ndC,go_sem,qf,qc,qa,qe];try exact we)
 obtain rfl:n=1:=by omega
 have q0:(((1:Nat):Int)<1)=False:=wl;simp (disch:=omega) only[z1,z2,zf1,zf2,q0,go_sem]
 repeat' first|exact wc|fail
theorem qAG(s:Str)(h:wh)(hl:s.length<=1000000):ACalls Tryz.prog 297 [zY s] h (.str s) h:=by
 have z0:zY s= .sl 1 λ_=>ndC s:=rfl
 have z1: ∀g,valL g .len [zY s]= .int .i64 1:=λ_=>rfl
 have z2: ∀g,okL g .len [zY s]=True:=λ_=>eqt trivial
 have zf1:(zY s).flag=true:=rfl;have zf2:(zY s).strip=zY s:=rfl;refine acO qy9 ?_;simp (disch:=omega) only[qw5,go_sem];refine qk (T:=λn:Nat×AObj=>qP 68 [(0,zY s),(3,.str (if n.1=0 then [] else s)),(4,.int .i64 (n.1:Int))]) (H:=λn=>h++ [n.2]) (inv:=λn=>n.1<=1∧qz [n.2] 0=true) (m:=λn=>1-n.1) (0,.emp 0) ⟨nzl _,rfl⟩ (Wk.temps ?_) ?_
 ·(simp only[go_sem,qf,qc,qa,qe];try exact we)
 rintro⟨n,O⟩ ⟨n1,n2⟩ K hK;simp only at n1 n2 hK;have n2': ∀m,qz (O::m) 0=true:=λ_=>n2
 by_cases hn:n=0
 ·subst hn;have q0:(((0:Nat):Int)<1)=True:=wj;simp (disch:=omega) only[z0,ndC,n2',Int.ofNat_zero,if_true,go_sem]
  repeat' first|(apply qb;exact rvk;simp only[go_sem];apply qr7)|(with_reducible first|intro _|apply aiA)|exact clz|fail
  refine hK _ _ (1,.mem (qo (some O)+1) 234 (ndC s)) ⟨nlr _,rfl⟩ (by simp only;omega) ?_;simp only[ndC];refine Wk.temps ?_
  (simp only[z0,ndC,go_sem,qf,qc,qa,qe];try exact we)
 obtain rfl:n=1:=by omega
 have q0:(((1:Nat):Int)<1)=False:=wl;simp (disch:=omega) only[z1,z2,zf1,zf2,q0,go_sem]
 repeat' first|exact wa|fail
theorem qCQ(s:Str)(h:wh)(hl:s.length<=1000)(hs:s≠ [])(hc:zz s=0):ACalls Tryz.prog 232 [zY s] h (.int .i64 0) h:=by
 have c1:=λdp mo h hm=>qGn s dp mo h hm
 have c2:=λh=>qvT s h om hs hc
 have c3:=λh=>qAG s h om
 have k1:((65536:Int)<s.length)=False:=wl;have zf1:(zY s).flag=true:=rfl;have zf2:(zY s).strip=zY s:=rfl;refine acO qyG ?_;simp (disch:=omega) only[qwF,zf1,zf2,go_sem]
 repeat' first|((first|refine cA (c1 _ _ _ om) ?_ ?_|refine cA (c2 _) ?_ ?_|refine cA (c3 _) ?_ ?_);exact flk;simp (disch:=omega) only[k1,zf1,zf2,go_sem])|exact wc|with_reducible apply aiA|exact clz|fail
theorem qEV(h:wh):ACalls Tryz.prog 233 [.nl] h (.int .i64 0) h:=by
 refine acO qyH ?_;simp (disch:=omega) only[qwG,go_sem]
 repeat' first|(apply qh;exact rvk;simp only[go_sem];apply qg)|(with_reducible first|intro _|apply aiA)|exact clz|fail
 refine qk (T:=λ_:Unit=>qP 64 [(0,.nl),(3,.int .i64 0)]) (H:=λ_=>h) (inv:=λ_=>True) (m:=λ_=>0) () trivial (Wk.temps ?_) ?_
 ·(simp only[go_sem,qf,qc,qa,qe];try exact we)
 rintro⟨⟩-K hK;have q0:((0:Int)<0)=False:=wl;simp (disch:=omega) only[q0,go_sem]
 repeat' first|exact wc|fail
theorem qAi(w:Str)(h:wh)(hl:w.length<=1000000)(hw: ∀i,i<w.length->ko (ch w i)=true):ACalls Tryz.prog 298 [.str w] h (.bool true) h:=by
 refine acO qza ?_;simp (disch:=omega) only[qw6,go_sem];refine qk (T:=λi:Nat=>qP 29 [(0,.str w),(3,.int .i64 (i:Int))]) (H:=λ_=>h) (inv:=λi=>i<=w.length) (m:=λi=>w.length-i) 0 (nzl _) (Wk.temps ?_) ?_
 ·(simp only[go_sem,qf,qc,qa,qe];try exact we)
 intro i i1 K hK
 by_cases hi:i<w.length
 ·have k1:((i:Int)<w.length)=True:=wj;have k2:(0<=(i:Int))=True:=wj;have ei:(w[i]?).getD 0=ch w i:=jV w i;have c1:=λh=>qa2 (ch w i) h
  have hwi:=hw i hi;unfold ko at hwi;obtain⟨c,hc⟩:=wg (kind (ch w i))
  rw[<-hc]at hwi;simp only[<-hc]at c1;simp only[Bool.or_eq_true,decide_eq_true_eq]at hwi;rcases hwi with e|e|e|e<;>subst e
  all_goals
   simp (disch:=omega) only[k1,k2,ei,go_sem]
   repeat' first|(refine cA (c1 _) flk ?_;simp (disch:=omega) only[go_sem])|(apply qh;exact rvk;simp only[go_sem];apply qd)|(with_reducible first|intro _|apply aiA)|exact clz|fail
   refine hK _ _ (i+1) hi om (Wk.temps ?_)
   (simp only[go_sem,qf,qc,qa,qe];try exact we)
 have k1:((i:Int)<w.length)=False:=wl;simp (disch:=omega) only[k1,go_sem]
 repeat' first|exact wc|fail
theorem qCM(w:Str)(h:wh)(hl:w.length<=64)(hw: ∀i,i<w.length->ko (ch w i)=true):ACalls Tryz.prog 379 [.nl,.str w] h (.int .i64 0) h:=by
 have c1:=λh=>qEV h
 have c2:=λh=>qAi w h om hw
 have k1:((64:Int)<w.length)=False:=wl;refine acO qzz ?_;simp (disch:=omega) only[qxt,go_sem]
 repeat' first|((first|refine cA (c1 _) ?_ ?_|refine cA (c2 _) ?_ ?_);exact flk;simp (disch:=omega) only[k1,go_sem])|exact wc|fail
theorem qD4(w:Str)(h:wh)(hl:w.length<=1000000):ACalls Tryz.prog 380 [.nl,.str w] h (.tup [.str w,.bool false]) h:=by
 refine acO qzA ?_;simp (disch:=omega) only[qxu,go_sem];refine qk (T:=λi:Nat=>qP 36 [(0,.nl),(1,.str w),(6,.int .i64 (i:Int))]) (H:=λ_=>h) (inv:=λi=>i<=w.length) (m:=λi=>w.length-i) 0 (nzl _) (Wk.temps ?_) ?_
 ·(simp only[go_sem,qf,qc,qa,qe];try exact we)
 intro i i1 K hK
 by_cases hi:i<w.length
 ·have k1:((i:Int)<w.length)=True:=wj;simp (disch:=omega) only[k1,go_sem];refine qk (T:=λ_:Unit=>qP 36 [(0,.nl),(1,.str w),(6,.int .i64 (i:Int)),(7,.int .i64 0)]) (H:=λ_=>h) (inv:=λ_=>True) (m:=λ_=>0) () trivial (Wk.temps ?_) ?_
  ·(simp only[go_sem,qf,qc,qa,qe];try exact we)
  rintro⟨⟩-K2 hK2;have q0:((0:Int)<0)=False:=wl;simp (disch:=omega) only[q0,go_sem];refine hK _ _ (i+1) hi om (Wk.temps ?_)
  (simp only[go_sem,qf,qc,qa,qe];try exact we)
 have k1:((i:Int)<w.length)=False:=wl;simp (disch:=omega) only[k1,go_sem]
 repeat' first|exact wc|fail
theorem qEa(w:Str)(h:wh)(hl:w.length<=64)(hw: ∀i,i<w.length->ko (ch w i)=true):ACalls Tryz.prog 354 [.nl,.str w] h (.tup [strs [w],.int .i64 0]) h:=by
 have c1:=λh=>qCM w h hl hw
 have c2:=λh=>qD4 w h om
 refine acO qzt ?_;simp (disch:=omega) only[qxn,go_sem]
 repeat' first|(refine cA (c1 _) flk ?_;simp (disch:=omega) only[go_sem])
 refine qk (T:=λ_:Unit=>qP 35 [(0,.nl),(1,.str w),(7,.osl (h.length+1) 1 1 0 1)]) (H:=λ_=>h++ [.emp 1,.mem 1 9 [.str w],.emp 0,.emp 0]) (inv:=λ_=>True) (m:=λ_=>0) () trivial (Wk.temps ?_) ?_
 ·(simp only[go_sem,qf,qc,qa,qe];try exact we)
 rintro⟨⟩-K hK;simp (disch:=omega) only[go_sem]
 repeat' first|(refine cA (c2 _) flk ?_;simp (disch:=omega) only[go_sem])|(apply qb;exact rvk;simp only[go_sem])|with_reducible apply aiA|exact clz|fail
 refine VLe.tup ⟨?_,qi,trivial⟩;refine VLe.sl_eq rfl (λj hj=> ?_);have e:j=0:=Nat.lt_one_iff.1 hj;subst e;rfl
theorem qDO(w:Str)(h:wh)(hl:w.length<=64)(hw: ∀i,i<w.length->ko (ch w i)=true):ACalls Tryz.prog 301 [.nl,.str w] h (.tup [.str w,.int .i64 0]) h:=by
 have c1:=λh=>qEa w h hl hw
 have z0:strs [w]= .sl 1 λj=> [.str (([w]:List Str).getD j [])]:=rfl
 have z1: ∀g,valL g .len [strs [w]]= .int .i64 1:=λ_=>rfl
 have z2: ∀g,okL g .len [strs [w]]=True:=λ_=>eqt trivial
 have e0:([w]:List Str).getD 0 []=w:=rfl;refine acO qzb ?_;simp (disch:=omega) only[qw7,go_sem]
 repeat' first|(refine cA (c1 _) flk ?_;simp (disch:=omega) only[z0,go_sem])|exact wc|with_reducible apply aiA|exact clz|fail
theorem qEw(t:Tk)(f:Nat)(h:wh)(hf:t.flags=f)(h2:f<32):ACalls Tryz.prog 300 [.agg (tkC t)] h (.bool (!(f.testBit 1)&& !(f.testBit 3))) h:=by
 have dA:=λh=>qCh t.text t.norm t.page t.line t.flags 2 t.name h om om (by decide)
 have dB:=λh=>qCh t.text t.norm t.page t.line t.flags 8 t.name h om om (by decide)
 rw[hf]at dA dB;rw[qxR f h2]at dA;rw[qxS f h2]at dB;cases e1:f.testBit 1 with
 |true=>
  rw[e1]at dA;refine acO qk5 ?_;simp (disch:=omega) only[qog,tkC,hf,go_sem]
  repeat' first|(refine qj ( .bool false) ?_;simp (disch:=omega) only[go_sem])|(refine cA (dA _) flk ?_;simp (disch:=omega) only[go_sem])|exact wa|fail
 |false=>
  rw[e1]at dA;cases e2:f.testBit 3 with
  |true=>
   rw[e2]at dB;refine acO qk5 ?_;simp (disch:=omega) only[qog,tkC,hf,go_sem]
   repeat' first|((first|refine cA (dA _) ?_ ?_|refine cG (λe=>dB _) ?_ ?_);exact flk;simp (disch:=omega) only[go_sem])|exact wa|fail
  |false=>
   rw[e2]at dB;refine acO qk5 ?_;simp (disch:=omega) only[qog,tkC,hf,go_sem]
   repeat' first|((first|refine cA (dA _) ?_ ?_|refine cG (λe=>dB _) ?_ ?_);exact flk;simp (disch:=omega) only[go_sem])|exact wa|fail
def NmT(t:Tk):Prop:= ∃f:Nat,t.flags=f∧f<32∧((!(f.testBit 1)&& !(f.testBit 3))=true->t.norm=t.text∧t.text.length<=64∧ ∀i,i<t.text.length->ko (ch t.text i)=true)
theorem qAs(b:List Tk)(h:wh)(hn:b.length<=1000000)(hN: ∀t∈b,NmT t):ACalls Tryz.prog 237 [.nl,zy b] h (.tup [zy b,.int .i64 0]) h:=by
 have z0:zy b= .sl b.length λi=>tkC (b.getD i default):=rfl
 have z1: ∀g,valL g .len [zy b]= .int .i64 b.length:=λ_=>rfl
 have z2: ∀g,okL g .len [zy b]=True:=λ_=>eqt trivial
 refine acO qyK ?_;simp (disch:=omega) only[qwJ,go_sem];refine qk (T:=λs:Nat×Nat×AObj×AObj=>qP 40 [(0,.nl),(1,zy b),(6,.osl (h.length+1) s.2.1 6 0 s.1),(7,.int .i64 s.1)])
  (H:=λs=>h++ [.emp 1,zw s.2.1 119 (z7 (b.take s.1)),s.2.2.1,s.2.2.2,.emp 0])
  (inv:=λs=>s.1<=b.length∧qz [s.2.2.1] 0=true∧qz [s.2.2.2] 0=true) (m:=λs=>b.length-s.1) (0,1,.emp 0,.emp 0) ⟨nzl _,rfl,rfl⟩ (Wk.temps ?_) ?_
 ·(simp only[go_sem,qf,qc,qa,qe];try exact we)
 rintro⟨i,v,O1,O2⟩ ⟨i1,i2,i3⟩ K hK;simp only at i1 i2 i3 hK;have i2': ∀m,qz (O1::m) 0=true:=λ_=>i2
 have i3': ∀m,qz (O2::m) 0=true:=λ_=>i3
 have eL:(b.take i).length=i:=by rw[List.length_take];omega
 by_cases hi:i<b.length
 ·have k1:((i:Int)<b.length)=True:=wj;have k2:(0<=(i:Int))=True:=wj;have hS:b.take (i+1)=b.take i++ [b.getD i default]:=by
   rw[List.take_add_one,zD hi,gdqA,zD hi];rfl
  have hNi:=hN _ (zS (a:=default) hi);obtain⟨L,hL⟩:=wg (b.take i)
  rw[<-hL]at hS eL ⊢;obtain⟨t,ht⟩:=wg (b.getD i default)
  have et:=ht.symm;rw[et]at hS hNi;have eC:=ju L;rw[eL]at eC;have eTk:List.take (i*6) (z7 L)=z7 L:=ltl om;obtain⟨f,f1,f2,f3⟩:=hNi;have c1:=λh=>qEw t f h f1 f2
  have eA:z7 L++tkC t=z7 (L++ [t]):=by rw[UB,U7]
  obtain⟨B,hB⟩:=wg ((!(f.testBit 1)&& !(f.testBit 3)))
  rw[<-hB]at c1 f3;unfold tkC at c1 eA;cases B with
  |true=>
   obtain⟨g1,g2,g3⟩:=f3 rfl;have c2:=λh=>qDO t.text h g2 g3
   rw[g1]at eA c1;simp (disch:=omega) only[z0,tkC,k1,k2,et,i2',g1,go_sem]
   repeat' first|((first|refine cA (c1 _) ?_ ?_|refine cA (c2 _) ?_ ?_);exact flk;simp (disch:=omega) only[i3',eC,eTk,go_sem])|with_reducible apply aiA|exact clz|fail
   try rw[eA]
   refine hK _ _ (i+1,v+1,.mem (qo (some O1)+1) 119 [.str t.text,.str t.text,.str t.page,.int .i64 t.line,.int .i64 t.flags,.str t.name],.mem (qo (some O2)+1) 119 [.str t.text,.str t.text,.str t.page,.int .i64 t.line,.int .i64 t.flags,.str t.name]) ⟨hi,rfl,rfl⟩ (by simp only;omega) ?_;simp only[hS];refine Wk.temps ?_
   (simp only[z0,tkC,go_sem,qf,qc,qa,qe];try exact we)
  |false=>
   simp (disch:=omega) only[z0,tkC,k1,k2,et,i2',go_sem]
   repeat' first|(refine cA (c1 _) flk ?_;simp (disch:=omega) only[i3',eC,eTk,go_sem])|with_reducible apply aiA|exact clz|fail
   try rw[eA]
   refine hK _ _ (i+1,v+1,.mem (qo (some O1)+1) 119 [.str t.text,.str t.norm,.str t.page,.int .i64 t.line,.int .i64 t.flags,.str t.name],.mem (qo (some O2)+1) 119 [.str t.text,.str t.norm,.str t.page,.int .i64 t.line,.int .i64 t.flags,.str t.name]) ⟨hi,rfl,rfl⟩ (by simp only;omega) ?_;simp only[hS];refine Wk.temps ?_
   (simp only[z0,tkC,go_sem,qf,qc,qa,qe];try exact we)
 have k1:((i:Int)<b.length)=False:=wl;obtain rfl:i=b.length:=by omega
 rw[List.take_length];simp (disch:=omega) only[z1,z2,k1,go_sem]
 repeat' first|(apply qb;exact rvk;simp only[go_sem])
 exact VLe.tup ⟨qa1 rfl,qi,trivial⟩
theorem qu6{s:Str}(h:qcA s=0): ∀t∈qav s,NmT t:=by
 intro t ht;obtain⟨u,hu,rfl,hm⟩:=qgi s ht;have hl:=qu4.1 h u hm;obtain⟨_,h2⟩:=hu;rcases h2 with⟨hf,c,r,e1,e2,e3⟩|⟨hf,c,e1,e2,e3⟩
 ·have key:u.text.length<=64∧ ∀i,i<u.text.length->ko (ch u.text i)=true:=by
   refine⟨hl,λi hi=> ?_⟩;rw[e1]at hi ⊢;cases i with
   |zero=>exact U3 e2
   |succ i=>
    have hi':i<r.length:=by simpa using hi
    show ko (ch r i)=true;unfold ch;rw[gdqA,zD hi'];exact e3 _ (List.getElem_mem hi')
  rcases hf with hf|hf
  ·exact⟨0,hf,by decide,λ_=>⟨rfl,key⟩⟩
  ·exact⟨16,hf,by decide,λ_=>⟨rfl,key⟩⟩
 ·rcases hf with hf|hf
  ·exact⟨8,hf,by decide,λe=>absurd e (by decide)⟩
  ·exact⟨24,hf,by decide,λe=>absurd e (by decide)⟩
theorem qBo(s:Str)(h:wh)(hl:s.length<=1000)(hs:s≠ [])(hc:zz s=0)(he:qcA s=0):ACalls Tryz.prog 161 [.agg [.str [],.int .i64 0],zY s,.nl] h (.tup [zy (qav s),.int .i64 0]) h:=by
 have c1:=λh=>qCQ s h hl hs hc
 have c2:=λh=>qEV h
 have c3:=λh=>qDM [] h (by decide)
 have e3:qiZ []=true:=by decide
 rw[e3]at c3;have c4:=λh=>qE8 s h om
 have hlt:=UC s;have c5:=λh=>qEY s h om (qxJ hc)
 have c6:=λh=>qE3 (qav s) h om
 rw[qls hl,he]at c6;have c7:=λh=>qAs (qav s) h om (qu6 he)
 have zf1:(zY s).flag=true:=rfl;have zf2:(zY s).strip=zY s:=rfl;have zf3:(qem s).flag=true:=rfl;have zf4:(qem s).strip=qem s:=rfl;refine acO qyn ?_;simp (disch:=omega) only[qwn,zf1,zf2,go_sem]
 repeat' first|((first|refine cA (c1 _) ?_ ?_|refine cG (λe=>c2 _) ?_ ?_|refine cA (c3 _) ?_ ?_|refine cA (c4 _) ?_ ?_|refine cA (c5 _) ?_ ?_|refine cA (c6 _) ?_ ?_|refine cA (c7 _) ?_ ?_);exact flk;simp (disch:=omega) only[zf1,zf2,zf3,zf4,go_sem])|(apply qb;exact rvk;simp only[go_sem];first|exact qi|skip)|(with_reducible first|intro _|apply aiA)|exact clz|fail
end RC
end
section
open Go Go.Proofs AF
def qtK:List Nat:= [161]
def qEP:C:=
 (vU [O1 5 (.box 0 26) 0,ON 10 (.nilo 1 7 133) []] (vU [MV 21 3,MV 11 21,MC 12 (i6 (-1))] ((vU [vO 13 0] (C.block 0 ((v6 22 13 2 0).seq ((C.block 1 (vU [O1 28 (.load (some 4))
 5,MV 29 2,MV 30 13,O2 31 (.idxA 4) 29 30,vN 32 1 31,LD 33 32,O2 34 (.call 97 true) 28 33,MV 14 34] (vU [O1 35 (.load (some 4)) 5,MV 36 1,MV 37 14,MV 38 2,MV 39 13,O2 40 (.idxA
 4) 38 39,vN 41 2 40,LD 42 41,ON 43 (.call 96 true) [.t 35,.t 36,.t 37,.t 42],MV 44 4,BI 45 .eql 43 44] (vV 45 (vY [MV 46 14,MV 47 13,MV 11 46,MV 12 47]))))).seq (vZ 26
 13))).loop)).seq (vU [⟨some 48,none,.bslc 2 7 0 133 [.str [],i6 0,i6 0,i6 0,.bool false,.bool false,.str []] [],[]⟩,MV 15 48] ((vU [MV 49 12,vP 50 .geq 49 0,MV 51 50,MG 52 51
 true 2,MG 53 51 true 12,P2 54 51 true (.idxA 4) 52 53,P1 55 51 true (.fldA 0) 54,P1 56 51 true (.load none) 55,PC 57 51 true (.bin .eql) 56 (i6 3),PF 58 51 57] (vV 58 (vX [MV
 59 15,MV 10 59]))).seq ((vU [MV 60 12,vP 61 .geq 60 0,MV 62 61,MG 63 62 true 2,MG 64 62 true 12,P2 65 62 true (.idxA 4) 63 64,P1 66 62 true (.fldA 0) 65,P1 67 62 true (.load
 none) 66,PC 68 62 true (.bin .eql) 67 (i6 2),PF 69 62 68] (vV 69 (vU [⟨some 71,none,.build [.str [],i6 0] [],[]⟩,MV 72 2,MV 73 12,O2 74 (.idxA 4) 72 73,vN 75 3 74,LD 76
 75,⟨some 77,none,.build [i6 0,.str [],i6 0,.nl] [(0,1),(1,1)],[.c (i6 1),.t 76]⟩,⟨some 78,none,.bslc 3 4 1 234 [i6 0,.str [],i6 0,.nl] [(0,4)],[.t 77]⟩,ON 79 (.call 161 false)
 [.t 71,.t 78,.c .nl],MV 70 79,O1 80 (.ext 0) 70,O1 81 (.ext 1) 70,MV 16 80,MV 17 81] ((vU [vO 18 0] (C.block 2 ((v6 82 18 16 2).seq ((C.block 3 (vY [MV 88 15,MV 89 16,MV 90
 18,O2 91 (.idxA 6) 89 90,O1 92 (.load (some 6)) 91,MV 93 1,MV 94 4,O2 95 (.idxA 3) 93 94,vN 96 0 95,LD 97 96,MV 98 4,MV 99 12,ON 100 (.call 87 true) [.t 92,.t 97,.t 98,.t
 99],⟨some 101,none,.bslc 4 7 1 133 [.str [],i6 0,i6 0,i6 0,.bool false,.bool false,.str []] [(0,7)],[.t 100]⟩,O2 102 (.app 5 7 133 64) 88 101,MV 15 102])).seq (vZ 86
 18))).loop)).seq (vX [MV 103 15,MV 10 103]))))).seq ((vU [MV 104 1,MV 105 4,O2 106 (.idxA 3) 104 105,vN 107 0 106,LD 108 107,MV 19 108] (C.block 4 ((vU [MV 109 19,MV 110 1,MV
 111 4,O2 112 (.idxA 3) 110 111,vN 113 1 112,LD 114 113,BI 115 .lss 109 114] (vW 115 4)).seq ((C.block 5 (vU [vN 118 3 5,LD 119 118,MV 120 19,O2 121 (.idxA 1) 119 120,LD 122
 121,MV 123 11,O2 124 (.idxA 1) 122 123,LD 125 124,MV 20 125] (vU [MV 126 20,vP 127 .geq 126 0] (vV 127 (vY [MV 128 15,vN 129 2 5,LD 130 129,MV 131 11,O2 132 (.idxA 1) 130
 131,LD 133 132,MV 134 20,O2 135 (.idxA 6) 133 134,O1 136 (.load (some 6)) 135,MV 137 19,MV 138 4,MV 139 12,ON 140 (.call 87 true) [.t 136,.t 137,.t 138,.t 139],⟨some
 141,none,.bslc 6 7 1 133 [.str [],i6 0,i6 0,i6 0,.bool false,.bool false,.str []] [(0,7)],[.t 140]⟩,O2 142 (.app 7 7 133 64) 128 141,MV 15 142]))))).seq (vZ 116
 19))).loop)).seq (vX [MV 143 15,MV 10 143]))))))))
theorem qDp:qG Tryz.prog 88 144 8 [RV.tmp 10] qEP:=fi Tryz.f88 [5,10,48,78,101,102,141,142] qtK []
end
section
open Go Go.Proofs AF HY LN
namespace RC
def rwV(r:Rw):Wd:=⟨r.p.t.text,r.p.c,r.u,r.d,jnB r.p.t.flags,qvh r.p.t.flags,r.p.t.name⟩
theorem qt7(t:Tk)(c u d:Int)(F:Nat)(h:wh)(hF:t.flags=F)(hF2:F<32):ACalls Tryz.prog 87 [.agg (tkC t),.int .i64 c,.int .i64 u,.int .i64 d] h (.agg (wdC (rwV ⟨⟨t,c⟩,u,d⟩))) h:=by
 have e4:=qvW F hF2;have e16:=qq7 F hF2;have ev:qvh t.flags=F.testBit 2:=by unfold qvh;rw[hF,itn]
 have ej:jnB t.flags=F.testBit 4:=by unfold jnB;rw[hF,itn]
 have k4:((4:Int)=0)=False:=eqf (by decide);have k16:((16:Int)=0)=False:=eqf (by decide);unfold rwV;simp only[ev,ej];cases g2:F.testBit 2<;>cases g4:F.testBit 4<;>rw[g2]at e4<;>rw[g4]at e16<;>simp only[Bool.false_eq_true,if_false,if_true]at e4 e16
 all_goals
  refine acO qDo ?_;simp (disch:=omega) only[qEO,tkC,wdC,hF,e4,e16,k4,k16,decide_true,decide_false,Bool.not_false,Bool.not_true,go_sem]
  repeat' first|exact wa|with_reducible apply aiA|exact clz|fail
theorem qdW{n:Nat}{L:List Wd}{fz:Nat->Bool}{h:wh}{d:Nat}(hn:n=L.length):VLe (if n*7<=(zG L).length then AV.sl n λi=>List.map (rei fz h (d+1)) (List.take 7 (List.drop (i*7) (zG L))) else .undef) (kq L):=by
 subst hn;rw[ipo (by rw[j9];omega)];refine VLe.sl_eq rfl (λi hi=> ?_);rw[qcc hi];rfl
def thS(x:Co)(l:List Un)(d:List Dc)(s:Int)(k n:Nat):Int:=if me x l d k n<0 then s else qX x (d.getD (me x l d k n).toNat default).sig
theorem qu0{x:Co}{l:List Un}{d:List Dc}{s:Int}{k n:Nat}(g:kQ x l (d.getD n default)=k):me x l d k (n+1)=n∧thS x l d s k (n+1)=qX x (d.getD n default).sig:=by
 have e:me x l d k (n+1)=n:=by
  conv=>lhs;unfold me
  rw[ipo g]
 refine⟨e,?_⟩;unfold thS;rw[e,ine om,itn]
theorem qqK{x:Co}{l:List Un}{d:List Dc}{s:Int}{k n:Nat}(g: ¬kQ x l (d.getD n default)=k):me x l d k (n+1)=me x l d k n∧thS x l d s k (n+1)=thS x l d s k n:=by
 have e:me x l d k (n+1)=me x l d k n:=by
  conv=>lhs;unfold me
  rw[ine g]
 refine⟨e,?_⟩;unfold thS;rw[e]
theorem qBe(x:Co)(s f:Nat): ∀n,(spk x s f n).length<=n:=by
 intro n
 induction n with
 |zero=>exact nlr _
 |succ n ih=>
  unfold spk;rw[lap];split
  ·simp only[lco,lnl];omega
  ·simp only[lnl];omega
def thL(x:Co)(S f:Nat)(u D:Int)(i:Nat):List Wd:=(rwM (spk x S f i) u D).map rwV
theorem qqJ(x:Co)(S f:Nat)(u D:Int)(i:Nat):thL x S f u D (i+1)=thL x S f u D i++if pcB x S (f+i)=true then [rwV ⟨pcT x S (f+i),u,D⟩] else []:=by
 unfold thL
 conv=>lhs;unfold spk
 unfold rwM;rw[List.map_append,List.map_append];congr 1;split<;>rfl
theorem qBj(x:Co)(S f:Nat)(u D:Int)(i:Nat):(thL x S f u D i).length<=i:=by
 have:=qBe x S f i
 unfold thL;rw[List.length_map,jr];exact this
theorem qu5(s:Str)(h:wh)(A B:AObj)(C:wh)(hl:s.length<=1000)(hs:s≠ [])(hc:zz s=0)(he:qcA s=0):ACalls Tryz.prog 161 [.agg [.str [],.int .i64 0],.osl (h.length+3) 1 4 0 1,.nl] (h++A:: .emp 1::B:: .mem 1 234 [.int .i64 1,.str s,.int .i64 0,.nl]::C) (.tup [zy (qav s),.int .i64 0]) (h++A:: .emp 1::B:: .emp 2::C):=by
 have c1:=qBo s (h++A:: .emp 1::B:: .emp 2::C) hl hs hc he;refine ACalls.frzd [h.length+3] ?s1 ?s2
 case s1=>simp only[dr,go_sem]
 case s2=>
  simp only[List.map_cons,List.map_nil,qbU,go_sem];have e: [h.length+3].contains (h.length+3)=true:=by simp
  simp only[e,if_true];refine c1.le ⟨qi,?_,qi,trivial⟩ (qi);unfold zY;refine VLe.sl_eq rfl (λi hi=> ?_);obtain rfl:i=0:=by omega
  rfl
theorem qBk(x:Co)(l:List Un)(d:List Dc)(s u:Nat)(h:wh)(hz:qbd x)(hu:qcS l)(ho:CoOk x)(hus:qbc x l=true)(hs:s<x.sig.length)(hk:u<l.length)(hd:d.length<=256)(hpl: ∀j,j<d.length->qao x l (d.getD j default)=0)(ht: ∀o∈d,o.txt.length<=1000):
  ACalls Tryz.prog 88 [.agg (coC x),qZ l,kz d,.int .i64 (s:Int),.int .i64 (u:Int)] h (kq ((rwU x l d s u).map rwV)) h:=by
 obtain⟨a1,a2,a3,a4,_⟩:=UI hus hk;have hrw:rwU x l d s u=if me x l d u d.length<0 then rwM (spk x s (frN l u) (toN l u-frN l u)) u (-1) else rwM (qnM x l u (d.getD (me x l d u d.length).toNat default)) u (me x l d u d.length):=rfl
 have hpp: ∀o,qnM x l u o=if o.kind=1 then spk x (qX x o.sig).toNat (frN l u) (toN l u-frN l u) else if o.kind=2 then (qav o.txt).map (λt=>⟨t,(l.getD u default).frm⟩) else []:=λ_=>rfl
 obtain⟨f,hf⟩:=wg (frN l u)
 obtain⟨e,he⟩:=wg (toN l u)
 obtain⟨U,hU⟩:=wg (l.getD u default)
 have eU:=hU.symm;rw[<-hf,<-hU]at a1;rw[<-he,<-hU]at a2;rw[<-hf,<-he]at a3;rw[<-he]at a4;simp only[<-hf,<-he,<-hU,a1]at hrw hpp;rw[hrw];have zu0:qZ l= .sl l.length λi=>unC (l.getD i default):=rfl
 have zd0:kz d= .sl d.length λi=>dcC (d.getD i default):=rfl
 have zd1: ∀g,valL g .len [kz d]= .int .i64 d.length:=λ_=>rfl
 have zd2: ∀g,okL g .len [kz d]=True:=λ_=>eqt trivial
 have zc0:qv x.col= .sl x.col.length λj=> [qx (x.col.getD j [])]:=rfl
 have zt0:qn x.tok= .sl x.tok.length λj=> [zy (x.tok.getD j [])]:=rfl
 have hsg:=hz.sg;have hcl:=hz.cl;have htn:=ho.tn;have hun:=hu.n;have u0:(0<=(u:Int))=True:=wj;have u1:((u:Int)<l.length)=True:=wj;have n1:(0<=(-1:Int))=False:=eqf (by decide);refine acO qDp ?_;simp (disch:=omega) only[qEP,coC,go_sem];refine qk (T:=λi:Nat=>qP 144 [(1,qZ l),(2,kz d),(4,.int .i64 (u:Int)),(5,.op h.length 1 0),(11,.int .i64 (thS x l d s u i)),(12,.int .i64 (me x l d u i)),(13,.int .i64 (i:Int))])
  (H:=λ_=>h++ [.mem 1 26 (coC x),.emp 1,.emp 0,.emp 0,.emp 0,.emp 0,.emp 0,.emp 0])
  (inv:=λi=>i<=d.length) (m:=λi=>d.length-i) 0 (nzl _) (Wk.temps ?_) ?_
 ·(simp only[thS,me,go_sem,qf,qc,qa,qe];try exact we)
 rintro i i1 K hK
 by_cases hi:i<d.length
 ·have k1:((i:Int)<d.length)=True:=wj;have k2:(0<=(i:Int))=True:=wj;have hp0:=hpl i hi;have hhit:=qu0 (x:=x) (l:=l) (d:=d) (s:=s) (k:=u) (n:=i);have hmis:=qqK (x:=x) (l:=l) (d:=d) (s:=s) (k:=u) (n:=i);obtain⟨o,hox⟩:=wg (d.getD i default)
  have eo:=hox.symm;rw[eo]at hp0 hhit hmis;obtain⟨_,_,_,p4,_⟩:=qap hp0;obtain⟨t1,t2,_,t4,t5⟩:=qfb p4;have c2:=λh=>qr0 x o.sig h hsg
  obtain⟨S,hSn⟩: ∃S:Nat,qX x o.sig=S:=⟨(qX x o.sig).toNat,om⟩
  rw[hSn,itn]at t2 t5;have c3:=λh=>qrS x l S o.tok h ho t2 hz.cl om
  have hcn:=qaG (t:=o.tok) ho t2 t4 t5;have hplN:plN x l S o.tok=kQ x l o:=by unfold plN kQ;rw[ine om,hSn,itn]
  simp only[hplN]at c3;simp only[hSn]at c2 hhit;obtain⟨V,hV⟩:=wg (kQ x l o)
  rw[<-hV]at hhit hmis;simp only[<-hV]at c3;obtain⟨A,hA⟩:=wg (thS x l d s u i)
  obtain⟨B,hB⟩:=wg (me x l d u i)
  rw[<-hA,<-hB]at hmis ⊢;unfold coC at c2 c3
  by_cases g:V=u
  ·have k3:(V=u)=True:=eqt g;obtain⟨q1,q2⟩:=hhit g;simp (disch:=omega) only[coC,zd0,dcC,k1,k2,eo,go_sem]
   repeat' first|((first|refine cA (c2 _) ?_ ?_|refine cA (c3 _) ?_ ?_);exact flk;simp (disch:=omega) only[k1,k2,k3,eo,go_sem])
   refine hK _ _ (i+1) hi om ?_;simp only[coC,q1,q2];refine Wk.temps ?_
   (simp only[zd0,dcC,go_sem,qf,qc,qa,qe];try exact we)
  ·have k3:(V=u)=False:=eqf g;obtain⟨q1,q2⟩:=hmis g;simp (disch:=omega) only[coC,zd0,dcC,k1,k2,eo,go_sem]
   repeat' first|((first|refine cA (c2 _) ?_ ?_|refine cA (c3 _) ?_ ?_);exact flk;simp (disch:=omega) only[k1,k2,k3,eo,go_sem])
   refine hK _ _ (i+1) hi om ?_;simp only[coC,q1,q2];refine Wk.temps ?_
   (simp only[zd0,dcC,go_sem,qf,qc,qa,qe];try exact we)
 have k1:((i:Int)<d.length)=False:=wl;obtain rfl:i=d.length:=by omega
 have hlr:=qdE x l d u d.length;have hth:thS x l d s u d.length=if me x l d u d.length<0 then (s:Int) else qX x (d.getD (me x l d u d.length).toNat default).sig:=rfl
 rw[hth];obtain⟨D,hD⟩:=wg (me x l d u d.length)
 rw[<-hD]at hlr ⊢;clear hK
 by_cases gD:D<0
 case' pos=>
  have hD1:D= -1:=by omega
  rw[ipo gD,ipo gD,<-hD1];obtain⟨S,hSe⟩:=wg s
  rw[<-hSe]at hs ⊢;have hS:=hs;have k2:(0<=D)=False:=wl;have k3:=k2;have k4:=k2;have k5:=k2;have eo:=k2
 case' neg=>
  rw[ine gD,ine gD];have hnl:D.toNat<d.length:=by omega
  have k2:(0<=D)=True:=wj;have k3:(D<d.length)=True:=wj;have hp0:=hpl _ hnl;have hto:=ht _ (zS (a:=default) hnl);obtain⟨o,hox⟩:=wg (d.getD D.toNat default)
  have eo:=hox.symm;rw[eo]at hp0 hto ⊢;obtain⟨p1,p2,p3,p4,p5,p6⟩:=qap hp0;obtain⟨t1,t2,_,t4,t5⟩:=qfb p4;obtain⟨S,hSn⟩: ∃S:Nat,qX x o.sig=S:=⟨(qX x o.sig).toNat,om⟩
  rw[hSn,itn]at t2 t5;have hS:=t2;rw[hpp o,hSn,itn]
  by_cases g3:o.kind=3
  ·have k4:(o.kind=3)=True:=eqt g3;rw[ine om,ine om];simp (disch:=omega) only[zd0,dcC,k1,k2,k3,k4,eo,go_sem]
   repeat' first|(apply qb;exact rvk;simp only[go_sem])
   rw[ipo (nzl _)];exact VLe.sl_eq rfl (λi hi=>absurd hi (nnz _))
  have k4:(o.kind=3)=False:=eqf g3
  by_cases g2:o.kind=2
  ·have k5:(o.kind=2)=True:=eqt g2;rw[ine om,ipo g2];obtain⟨r1,r2,_,r3⟩:=qkr p6 g2;have c1:=λA B C=>qu5 o.txt h A B C hto r3 r1 r2
   have hTl:=UC o.txt;have hfl:=λt=> @qgh o.txt t
   obtain⟨T,hTe⟩:=wg (qav o.txt)
   simp only[<-hTe]at c1;rw[<-hTe]at hTl hfl ⊢;have zT:zy T= .sl T.length λj=>tkC (T.getD j default):=rfl
   have zT1: ∀g,valL g .len [zy T]= .int .i64 T.length:=λ_=>rfl
   have zT2: ∀g,okL g .len [zy T]=True:=λ_=>eqt trivial
   simp (disch:=omega) only[zd0,dcC,k1,k2,k3,k4,k5,eo,go_sem]
   repeat' first|with_reducible apply aiA|exact clz|fail
   refine qE (c1 _ _ _) (by exact flk) ?_;simp (disch:=omega) only[go_sem]
   repeat' first|with_reducible apply aiA|exact clz|fail
   refine qk (T:=λs:Nat×Nat×AObj=>qP 144 [(1,qZ l),(4,.int .i64 (u:Int)),(12,.int .i64 D),(15,.osl (h.length+2) s.2.1 7 0 s.1),(16,zy T),(18,.int .i64 (s.1:Int))])
    (H:=λs=>h++ [.mem 1 26 (coC x),.emp 1,.mem s.2.1 133 (zG ((rwM ((T.take s.1).map λt=>⟨t,(f:Int)⟩) u D).map rwV)),.emp 2,s.2.2,.emp 0,.emp 0,.emp 0])
    (inv:=λs=>s.1<=T.length∧qz [s.2.2] 0=true) (m:=λs=>T.length-s.1) (0,1,.emp 0) ⟨nzl _,rfl⟩ (Wk.temps ?_) ?_
   ·(simp only[go_sem,qf,qc,qa,qe];try exact we)
   rintro⟨i,v,O1⟩ ⟨i1,i2⟩ K hK;simp only at i1 i2 hK;have i2': ∀m,qz (O1::m) 0=true:=λ_=>i2
   by_cases hi:i<T.length
   ·have q0:((i:Int)<T.length)=True:=wj;have q1:(0<=(i:Int))=True:=wj;have hSu:(rwM ((T.take (i+1)).map λt=>(⟨t,(f:Int)⟩:Pc)) u D).map rwV=(rwM ((T.take i).map λt=>(⟨t,(f:Int)⟩:Pc)) u D).map rwV++ [rwV ⟨⟨T.getD i default,f⟩,u,D⟩]:=by
     unfold rwM;rw[List.take_add_one,zD hi,gdqA,zD hi,List.map_append,List.map_append,List.map_append];rfl
    have eL:((rwM ((T.take i).map λt=>(⟨t,(f:Int)⟩:Pc)) u D).map rwV).length=i:=by rw[List.length_map,jr,List.length_map,List.length_take];omega
    obtain⟨_,hF4⟩:=hfl _ (zS (a:=default) hi);obtain⟨L,hL⟩:=wg ((rwM ((T.take i).map λt=>(⟨t,(f:Int)⟩:Pc)) u D).map rwV)
    rw[<-hL]at hSu eL ⊢;obtain⟨t,htx⟩:=wg (T.getD i default)
    have et:=htx.symm;rw[et]at hSu hF4;have eC:=j9 L;rw[eL]at eC;have eTk:List.take (i*7) (zG L)=zG L:=ltl om;obtain⟨F,hF⟩: ∃F:Nat,t.flags=F:=⟨t.flags.toNat,om⟩
    have c2:=λh=>qt7 t (f:Int) u D F h hF om
    obtain⟨W,hW⟩:=wg (rwV ⟨⟨t,(f:Int)⟩,u,D⟩)
    rw[<-hW]at hSu;simp only[<-hW]at c2;unfold tkC wdC at c2;simp (disch:=omega) only[zT,tkC,et,q0,q1,zu0,unC,eU,u0,u1,a1,go_sem]
    repeat' first|(refine cA (c2 _) flk ?_;simp (disch:=omega) only[i2',eC,eTk,go_sem])|with_reducible apply aiA|exact clz|fail
    have eA:zG L++ [AV.str W.text,.int .i64 W.col,.int .i64 W.unit,.int .i64 W.dec,.bool W.joined,.bool W.verse,.str W.name]=zG (L++ [W]):=by rw[UD,qce];rfl
    try rw[eA]
    refine hK _ _ (i+1,v+1,.mem (qo (some O1)+1) 133 (wdC W)) ⟨hi,rfl⟩ (by simp only;omega) ?_;simp only[hSu,coC,wdC];refine Wk.temps ?_
    (simp only[go_sem,qf,qc,qa,qe];try exact we)
   have q0:((i:Int)<T.length)=False:=wl;obtain rfl:i=T.length:=by omega
   rw[List.take_length];simp (disch:=omega) only[q0,zT1,zT2,go_sem]
   repeat' first|(apply qb;exact rvk;simp only[go_sem])
   refine qdW (L:=(rwM (T.map λt=>(⟨t,(f:Int)⟩:Pc)) u D).map rwV) ?_;rw[List.length_map,jr,List.length_map]
  have k5:(o.kind=2)=False:=eqf g2;rw[ipo om]
 all_goals
  have q6:((S:Int)<x.tok.length)=True:=wj;have q5:(0<=(S:Int))=True:=wj;simp (disch:=omega) only[k1,zd0,dcC,k2,k3,k4,k5,eo,zu0,unC,eU,a1,a2,u0,u1,go_sem]
  repeat' first|(apply qb;exact rvk;simp only[go_sem])|(with_reducible first|intro _|apply aiA)|exact clz|fail
  refine qk (T:=λs:Nat×Nat×AObj=>qP 144 [(1,qZ l),(4,.int .i64 (u:Int)),(5,.op h.length 1 0),(11,.int .i64 (S:Int)),(12,.int .i64 D),(15,.osl (h.length+2) s.2.1 7 0 (thL x S f u D s.1).length),(19,.int .i64 ((f+s.1:Nat):Int))])
   (H:=λs=>h++ [.mem 1 26 (coC x),.emp 1,.mem s.2.1 133 (zG (thL x S f u D s.1)),.emp 0,.emp 0,.emp 0,s.2.2,.emp 0])
   (inv:=λs=>f+s.1<=e∧qz [s.2.2] 0=true) (m:=λs=>e-f-s.1) (0,1,.emp 0) ⟨by simp only;omega,rfl⟩ (Wk.temps ?_) ?_
  ·(simp only[thL,spk,rwM,go_sem,qf,qc,qa,qe];try exact we)
  rintro⟨i,v,O1⟩ ⟨i1,i2⟩ K hK;simp only at i1 i2 hK;have i2': ∀m,qz (O1::m) 0=true:=λ_=>i2
  by_cases hi:f+i<e
  ·have q0:(((f+i:Nat):Int)<e)=True:=wj;have q1:(0<=((f+i:Nat):Int))=True:=wj;have q2:(((f+i:Nat):Int)<x.col.length)=True:=wj;obtain⟨c,hcx⟩:=wg (x.col.getD (f+i) [])
   have ec:=hcx.symm;have hcl2:=ho.cl (f+i) om;have hce:=ho.ce (f+i) om S hS;have hSu:=qqJ x S f u D i;have hll:=qBj x S f u D i;rw[ec]at hcl2 hce;have q3:((S:Int)<c.length)=True:=wj;have hpb:pcB x S (f+i)=decide (0<=c.getD S 0):=by unfold pcB;rw[ec]
   have hpf:=λhb=>qgY ho hS (show f+i<x.col.length by omega) (k:=f+i) hb
   rw[hpb]at hSu hpf;have zr:qx c= .sl c.length λj=> [.int .i64 (c.getD j 0)]:=rfl
   obtain⟨L,hL⟩:=wg (thL x S f u D i)
   rw[<-hL]at hSu hll ⊢;have eC:=j9 L;have eTk:List.take (L.length*7) (zG L)=zG L:=ltl om
   by_cases g:0<=c.getD S 0
   ·obtain⟨hp1,hp2⟩:=hpf (dqt g);obtain⟨N,hN⟩: ∃N:Nat,c.getD S 0=N:=⟨(c.getD S 0).toNat,om⟩
    rw[ec,hN,itn]at hp2;have q4:(0<=(N:Int))=True:=wj;rw[dqt g,ipo rfl]at hSu;obtain⟨T,hT⟩:=wg (x.tok.getD S [])
    have eT:=hT.symm;rw[eT]at hp2;have q7:((N:Int)<T.length)=True:=wj;have zT:zy T= .sl T.length λj=>tkC (T.getD j default):=rfl
    have hpc:pcT x S (f+i)=⟨T.getD N default,((f+i:Nat):Int)⟩:=by
     unfold pcT;rw[ec,eT,hN,itn]
    rw[hpc]at hSu hp1;obtain⟨t,htx⟩:=wg (T.getD N default)
    have et:=htx.symm;rw[et]at hSu hp1;obtain⟨F,hF,hF2⟩:=(qdJ (p:=⟨t,0⟩) hp1).1;have c1:=λh=>qt7 t ((f+i:Nat):Int) u D F h hF hF2
    obtain⟨W,hW⟩:=wg (rwV ⟨⟨t,((f+i:Nat):Int)⟩,u,D⟩)
    rw[<-hW]at hSu;simp only[<-hW]at c1;unfold tkC wdC at c1;simp (disch:=omega) only[zu0,unC,eU,u0,u1,a2,coC,zc0,zt0,zr,q0,q1,q2,q3,q4,q5,q6,q7,ec,hN,eT,zT,tkC,et,go_sem]
    repeat' first|(refine cA (c1 _) flk ?_;simp (disch:=omega) only[i2',eC,eTk,go_sem])|with_reducible apply aiA|exact clz|fail
    have eA:zG L++ [AV.str W.text,.int .i64 W.col,.int .i64 W.unit,.int .i64 W.dec,.bool W.joined,.bool W.verse,.str W.name]=zG (L++ [W]):=by rw[UD,qce];rfl
    try rw[eA]
    refine hK _ _ (i+1,v+1,.mem (qo (some O1)+1) 133 (wdC W)) ⟨by simp only;omega,rfl⟩ (by simp only;omega) ?_;simp only[hSu,coC,wdC,lap,lco,lnl];refine Wk.temps ?_
    (simp only[go_sem,qf,qc,qa,qe];try exact we)
   ·have q4:(0<=c.getD S 0)=False:=eqf g;rw[dqf g,ine (by decide),lan]at hSu;simp (disch:=omega) only[zu0,unC,eU,u0,u1,a2,coC,zc0,zr,q0,q1,q2,q3,q4,q5,ec,go_sem]
    repeat' first|with_reducible apply aiA|exact clz|fail
    refine hK _ _ (i+1,v,O1) ⟨by simp only;omega,i2⟩ (by simp only;omega) ?_;simp only[hSu,coC];refine Wk.temps ?_
    (simp only[go_sem,qf,qc,qa,qe];try exact we)
  have q0:(((f+i:Nat):Int)<e)=False:=wl;obtain rfl:i=e-f:=by omega
  simp (disch:=omega) only[q0,zu0,unC,eU,u0,u1,a2,go_sem]
  repeat' first|(apply qb;exact rvk;simp only[go_sem])
  exact qdW rfl
theorem qei{L:List Wd}{i k:Nat}(hi:i<L.length)(hk:k<7):(zG L)[i*7+k]? =(wdC (L.getD i default))[k]? :=by
 rw[<-qcc hi,List.getElem?_take,ipo hk,List.getElem?_drop]
theorem qvo{M:List Wd}{i:Nat}(b:Bool){z:Wd}(hz:M.getD i default=z)(hi:i<M.length):(zG M).take (i*7+4)++ [AV.bool b]++(zG M).drop (i*7+4+1)=zG (M.set i ⟨z.text,z.col,z.unit,z.dec,b,z.verse,z.name⟩):=by
 have hg:M[i]=z:=by rw[<-hz,gdqA,zD hi];rfl
 have e:zG M=zG (M.take i)++(wdC z++zG (M.drop (i+1))):=by
  conv=>lhs;rw[<-List.take_append_drop i M,List.drop_eq_getElem_cons hi,UD,hg]
  rfl
 have hA:(zG (M.take i)).length=i*7:=by rw[j9,List.length_take];omega
 have h1:(zG (M.take i)).take (i*7+4)=zG (M.take i):=ltl om;have h2:(zG (M.take i)).drop (i*7+4+1)= []:=List.drop_eq_nil_of_le om;rw[e,List.take_append,List.drop_append,hA,h1,h2,show i*7+4-i*7=4 by omega,show i*7+4+1-i*7=5 by omega];rw[List.set_eq_take_append_cons_drop,ipo hi,UD,lna,List.append_assoc,List.append_assoc];rfl
def jnM(L:List Rw)(i:Nat):List Wd:=(bsW L).take i++(L.map rwV).drop i
theorem qlr{L:List Rw}{i:Nat}(hi:i<=L.length):(jnM L i).length=L.length:=by
 unfold jnM;rw[lap,List.length_take,List.length_drop,jx,List.length_map];omega
theorem qAf{L:List Rw}{i:Nat}(hi:i<L.length):(jnM L i).getD i default=rwV (L.getD i default):=by
 unfold jnM;rw[gdqA,List.getElem?_append_right (by rw[List.length_take];omega),List.length_take,jx,show i-min i L.length=0 by omega,List.getElem?_drop,Nat.add_zero,List.getElem?_map,zD hi,gdqA,zD hi];rfl
theorem qAg{L:List Rw}{i:Nat}(h0:0<i)(hi:i<L.length):((jnM L i).getD (i-1) default).text=(L.getD (i-1) default).p.t.text:=by
 unfold jnM;rw[qaN (by rw[List.length_take,jx];omega),gdqA,List.getElem?_take,ipo om,<-gdqA,qjU om];rfl
theorem qtS{L:List Rw}{i:Nat}(hi:i<L.length):(jnM L i).set i (mkW (qg0 L i) (L.getD i default))=jnM L (i+1):=by
 rw[List.set_eq_take_append_cons_drop,ipo (by rw[qlr om];exact hi)];have h1:((bsW L).take i).length=i:=by rw[List.length_take,jx];omega
 have h2:(jnM L i).take i=(bsW L).take i:=by
  unfold jnM;rw[List.take_append,h1,Nat.sub_self,List.take_zero,lan,ltl om]
 have h3:(jnM L i).drop (i+1)=(L.map rwV).drop (i+1):=by
  unfold jnM;rw[List.drop_append,h1,List.drop_eq_nil_of_le om,lna,show i+1-i=1 by omega,List.drop_drop]
 rw[h2,h3];unfold jnM;have h4:(bsW L).take (i+1)=(bsW L).take i++ [mkW (qg0 L i) (L.getD i default)]:=by
  rw[List.take_add_one,<-qjU hi,zD (by rw[jx];exact hi),gdqA,zD (by rw[jx];exact hi)];rfl
 rw[h4,List.append_assoc];rfl
theorem qtR(L:List Rw):jnM L L.length=bsW L:=by
 unfold jnM;rw[ltl (by rw[jx];exact nlr _),List.drop_eq_nil_of_le (by rw[List.length_map];exact nlr _),lan]
theorem qCj(L:List Rw):jnM L 0=L.map rwV:=rfl
theorem qAY(x:Co)(l:List Un)(d:List Dc)(s:Nat)(i:Nat): ∀n,i<=n->(rwS x l d s i).length<=(rwS x l d s n).length:=by
 intro n
 induction n with
 |zero=>
  intro h;obtain rfl:i=0:=by omega
  exact nlr _
 |succ n ih=>
  intro h
  by_cases e:i=n+1
  ·subst e;exact nlr _
  ·have:=ih om
   conv=>rhs;unfold rwS
   rw[lap];omega
theorem qum{x:Co}{l:List Un}{d:List Dc}{s:Nat}(hc:cvA x l=true)(ho:CoOk x)(hus:qbc x l=true)(hs:s<x.sig.length)(hpl: ∀i,i<d.length->qao x l (d.getD i default)=0): ∀i,i<=x.col.length-> ∀r∈rwS x l d s i,PcF r.p:=by
 intro i
 induction i with
 |zero=>intro _ r hr;cases hr
 |succ i ih=>
  intro hi r hr;unfold rwS at hr;rcases List.mem_append.1 hr with hr|hr
  ·exact ih om r hr
  ·unfold rwc at hr;split at hr
   ·rename_i g;rw[List.mem_singleton]at hr;subst hr;exact qdJ (qgY ho hs om (qky hc ho hs om g).1).1
   ·split at hr
    ·rename_i g _;obtain⟨k,hk⟩: ∃k:Nat,fnU l (i:Int)=k:=⟨(fnU l (i:Int)).toNat,om⟩
     rw[hk,itn]at hr;exact qlU ho hus hs hpl (qgO hk).1 r hr
    ·cases hr
theorem qri(x:Co)(l:List Un)(d:List Dc)(s:Int)(h:wh)(hz:qbd x)(hu:qcS l)(hp:cb SG h)(hd:d.length<=1000000)(ht: ∀o∈d,o.txt.length<=1000)(hN0:vaE x l=0->(rwA x l d s.toNat).length<=1000000000):
  ACalls Tryz.prog 26 [.agg (coC x),qZ l,kz d,.int .i64 s] h (.tup [kq (esR x l d s),.int .i64 (esE x l d s)]) h:=by
 have c1:=λl'=>qBs x l (h++l') hz hu (hp.app l')
 unfold esR
 by_cases g1:vaE x l=0
 case neg=>
  have k1:(vaE x l=0)=False:=eqf g1;have hE:esE x l d s=vaE x l:=by unfold esE;rw[ipo g1]
  rw[hE,ine g1];unfold coC at c1;refine acO qk3 ?_;simp (disch:=omega) only[qvB,coC,go_sem]
  repeat' first|(refine cA (c1 _) flk ?_;simp (disch:=omega) only[k1,go_sem])|(apply qb;exact rvk;simp only[go_sem])
  exact VLe.tup ⟨qU,qi,trivial⟩
 have zs1: ∀g,valL g .len [strs x.sig]= .int .i64 x.sig.length:=λ_=>rfl
 have zs2: ∀g,okL g .len [strs x.sig]=True:=λ_=>eqt trivial
 simp only[g1]at c1
 by_cases g2:s<0
 ·have k2:(s<0)=True:=eqt g2;have hE:esE x l d s=2:=by unfold esE;rw[ine (by simpa using g1),ipo (.inl g2)]
  rw[hE,ine (by decide)];unfold coC at c1;refine acO qk3 ?_;simp (disch:=omega) only[qvB,coC,go_sem]
  repeat' first|(refine cA (c1 _) flk ?_;simp (disch:=omega) only[k2,go_sem])|(apply qb;exact rvk;simp only[go_sem])
  exact VLe.tup ⟨qU,qi,trivial⟩
 have k2:(s<0)=False:=eqf g2
 by_cases g3:(x.sig.length:Int)<=s
 ·have k3:((x.sig.length:Int)<=s)=True:=eqt g3;have hE:esE x l d s=2:=by unfold esE;rw[ine (by simpa using g1),ipo (.inr g3)]
  rw[hE,ine (by decide)];unfold coC at c1;refine acO qk3 ?_;simp (disch:=omega) only[qvB,coC,go_sem]
  repeat' first|(refine cA (c1 _) flk ?_;simp (disch:=omega) only[k2,k3,zs1,zs2,go_sem])|(apply qb;exact rvk;simp only[go_sem])
  exact VLe.tup ⟨qU,qi,trivial⟩
 have k3:((x.sig.length:Int)<=s)=False:=eqf g3;obtain⟨v1,v2,v3⟩:=qdl g1;have ho:=qag v1;have c2:=λh=>qxG x l d h hz hu v1 hd ht
 by_cases g4:UY x l d=0
 case neg=>
  have k4:(UY x l d=0)=False:=eqf g4;have hE:esE x l d s=UY x l d:=by unfold esE;rw[ine (by simpa using g1),ine om,ipo g4]
  rw[hE,ine g4];unfold coC at c1 c2;refine acO qk3 ?_;simp (disch:=omega) only[qvB,coC,go_sem]
  repeat' first|((first|refine cA (c1 _) ?_ ?_|refine cA (c2 _) ?_ ?_);exact flk;simp (disch:=omega) only[k2,k3,k4,zs1,zs2,go_sem])|(apply qb;exact rvk;simp only[go_sem])
  exact VLe.tup ⟨qU,qi,trivial⟩
 simp only[g4]at c2;obtain⟨hdl,hpl⟩:=ql9 g4;obtain⟨S,hSe⟩: ∃S:Nat,s=S:=⟨s.toNat,om⟩
 subst hSe;have hS:S<x.sig.length:=by omega
 have hN:=hN0 g1;rw[itn]at hN ⊢;have hall:=quL d v2 v3 ho hS;have hE:esE x l d (S:Int)=if 1024<(rwS x l d S x.col.length).length then 4 else 0:=by
  unfold esE;rw[ine (by simpa using g1),ine om,ine (by simpa using g4),itn,hall]
 rw[hE,<-hall];rw[<-hall]at hN;have zc0:qv x.col= .sl x.col.length λj=> [qx (x.col.getD j [])]:=rfl
 have zc1: ∀g,valL g .len [qv x.col]= .int .i64 x.col.length:=λ_=>rfl
 have zc2: ∀g,okL g .len [qv x.col]=True:=λ_=>eqt trivial
 have zt0:qn x.tok= .sl x.tok.length λj=> [zy (x.tok.getD j [])]:=rfl
 have zu0:qZ l= .sl l.length λi=>unC (l.getD i default):=rfl
 have hsg:=hz.sg;have hcl:=hz.cl;have htn:=ho.tn;have hun:=hu.n;have q5:(0<=(S:Int))=True:=wj;have q6:((S:Int)<x.tok.length)=True:=wj;have hle:=qAY x l d S;have hpf:=qum (d:=d) v3 ho v2 hS hpl;unfold coC at c1 c2;refine acO qk3 ?_;simp (disch:=omega) only[qvB,coC,go_sem]
 repeat' first|((first|refine cA (c1 _) ?_ ?_|refine cA (c2 _) ?_ ?_);exact flk;simp (disch:=omega) only[k2,k3,zs1,zs2,go_sem])
 refine qk (T:=λs:Nat×Nat×AObj=>qP 146 [(1,qZ l),(2,kz d),(3,.int .i64 (S:Int)),(4,.op h.length 1 0),(12,.osl (h.length+2) s.2.1 7 0 (rwS x l d S s.1).length),(13,.int .i64 (s.1:Int))])
  (H:=λs=>h++ [.mem 1 26 (coC x),.emp 1,.mem s.2.1 133 (zG ((rwS x l d S s.1).map rwV)),s.2.2,.emp 0,.emp 0])
  (inv:=λs=>s.1<=x.col.length∧qz [s.2.2] 0=true) (m:=λs=>x.col.length-s.1) (0,1,.emp 0) ⟨nzl _,rfl⟩ (Wk.temps ?_) ?_
 ·(simp only[rwS,go_sem,qf,qc,qa,qe];try exact we)
 rintro⟨i,v,O1⟩ ⟨i1,i2⟩ K hK;simp only at i1 i2 hK;have i2': ∀m,qz (O1::m) 0=true:=λ_=>i2
 by_cases hi:i<x.col.length
 ·have q0:((i:Int)<x.col.length)=True:=wj;have q1:(0<=(i:Int))=True:=wj;have c3:=λh=>qr4 l (i:Int) h om
  have hSu:rwS x l d S (i+1)=rwS x l d S i++rwc x l d S i:=rfl;have hl1:=hle i _ i1;have hl2:=hle (i+1) _ hi;have eR:rwc x l d S i=if fnU l (i:Int)<0 then [⟨pcT x S i,-1,-1⟩] else if (l.getD (fnU l (i:Int)).toNat default).frm=i then rwU x l d S (fnU l (i:Int)).toNat else []:=rfl
  rw[hSu,lap]at hl2;have hcm:=λhf=>qky v3 ho hS hi hf
  have hVn:= @qgO l (i:Int);obtain⟨V,hV⟩:=wg (fnU l (i:Int))
  rw[<-hV]at eR hcm hVn;simp only[<-hV]at c3;obtain⟨L,hL⟩:=wg (rwS x l d S i)
  rw[<-hL]at hSu hl1 hl2 ⊢;have eL:(L.map rwV).length=L.length:=List.length_map ..;have eC:=j9 (L.map rwV);rw[eL]at eC;have eTk:List.take (L.length*7) (zG (L.map rwV))=zG (L.map rwV):=ltl om
  by_cases gV:V<0
  ·have k5:(V<0)=True:=eqt gV;rw[ipo gV]at eR;obtain⟨hcb,_,_⟩:=hcm gV;obtain⟨hp1,hp2⟩:=qgY ho hS hi hcb;have hcl2:=ho.cl i hi;unfold pcB at hcb;have hcb:=of_decide_eq_true hcb;obtain⟨c,hcx⟩:=wg (x.col.getD i [])
   have ec:=hcx.symm;rw[ec]at hcl2 hcb hp2;have q3:((S:Int)<c.length)=True:=wj;have zr:qx c= .sl c.length λj=> [.int .i64 (c.getD j 0)]:=rfl
   obtain⟨N,hNe⟩: ∃N:Nat,c.getD S 0=N:=⟨(c.getD S 0).toNat,om⟩
   rw[hNe,itn]at hp2;have q4:(0<=(N:Int))=True:=wj;obtain⟨T,hT⟩:=wg (x.tok.getD S [])
   have eT:=hT.symm;rw[eT]at hp2;have q7:((N:Int)<T.length)=True:=wj;have zT:zy T= .sl T.length λj=>tkC (T.getD j default):=rfl
   have hpc:pcT x S i=⟨T.getD N default,(i:Int)⟩:=by
    unfold pcT;rw[ec,eT,hNe,itn]
   rw[hpc]at eR hp1;obtain⟨t,htx⟩:=wg (T.getD N default)
   have et:=htx.symm;rw[et]at eR hp1;obtain⟨F,hF,hF2⟩:=(qdJ (p:=⟨t,0⟩) hp1).1;have c4:=λh=>qt7 t (i:Int) (-1) (-1) F h hF hF2
   obtain⟨W,hW⟩:=wg (rwV ⟨⟨t,(i:Int)⟩,-1,-1⟩)
   simp only[<-hW]at c4;rw[eR]at hl2 hSu;rw[lco,lnl]at hl2;unfold tkC wdC at c4;simp (disch:=omega) only[coC,zc0,zt0,q0,go_sem]
   repeat' first|((first|refine cA (c3 _) ?_ ?_|refine cA (c4 _) ?_ ?_);exact flk;simp (disch:=omega) only[zr,q0,q1,q3,q4,q5,q6,q7,k5,ec,hNe,eT,zT,tkC,et,i2',eC,eTk,go_sem])|with_reducible apply aiA|exact clz|fail
   have eA:zG (L.map rwV)++ [AV.str W.text,.int .i64 W.col,.int .i64 W.unit,.int .i64 W.dec,.bool W.joined,.bool W.verse,.str W.name]=zG ((L++ [(⟨⟨t,(i:Int)⟩,-1,-1⟩:Rw)]).map rwV):=by
    rw[List.map_append,UD,List.map_cons,List.map_nil,qce,<-hW];rfl
   try rw[eA]
   refine hK _ _ (i+1,v+1,.mem (qo (some O1)+1) 133 (wdC W)) ⟨hi,rfl⟩ (by simp only;omega) ?_;simp only[hSu,coC,wdC,lap,lco,lnl];refine Wk.temps ?_
   (simp only[go_sem,qf,qc,qa,qe];try exact we)
  have k5:(V<0)=False:=eqf gV;obtain⟨k,hk⟩: ∃k:Nat,V=k:=⟨V.toNat,om⟩
  obtain⟨hkl,_⟩:=hVn hk;subst hk;rw[ine gV,itn]at eR;have q3:(0<=(k:Int))=True:=wj;have q4:((k:Int)<l.length)=True:=wj;obtain⟨U,hU⟩:=wg (l.getD k default)
  have eU:=hU.symm;rw[eU]at eR
  by_cases gF:U.frm=i
  ·have k6:(U.frm=i)=True:=eqt gF;rw[ipo gF]at eR;have c4:=λh=>qBk x l d S k h hz hu ho v2 hS hkl hdl hpl ht
   rw[eR]at hl2 hSu;obtain⟨R,hR⟩:=wg (rwU x l d S k)
   rw[<-hR]at hl2 hSu;simp only[<-hR]at c4;have s1:=λh=>quX h (R.map rwV)
   have eP:=j9 (R.map rwV);have eP2:(R.map rwV).length=R.length:=List.length_map ..;have zap: ∀a b c d e,qaz (.osl a b c d e) (kq (R.map rwV))=true:=λ_ _ _ _ _=>rfl
   unfold coC at c4;simp (disch:=omega) only[coC,zc0,zu0,unC,q0,go_sem]
   repeat' first|((first|refine cA (c3 _) ?_ ?_|refine cA (c4 _) ?_ ?_);exact flk;simp (disch:=omega) only[eU,q0,q1,q3,q4,k5,k6,eC,eTk,s1,eP,eP2,zap,go_sem])|with_reducible apply aiA|exact clz|fail
   have eA:zG (L.map rwV)++zG (R.map rwV)=zG ((L++R).map rwV):=by rw[List.map_append,UD]
   try rw[eA]
   refine hK _ _ (i+1,v+1,O1) ⟨hi,i2⟩ (by simp only;omega) ?_;simp only[hSu,coC,lap];refine Wk.temps ?_
   (simp only[go_sem,qf,qc,qa,qe];try exact we)
  have k6:(U.frm=i)=False:=eqf gF;rw[ine gF]at eR;rw[eR,lan]at hSu;simp (disch:=omega) only[coC,zc0,zu0,unC,q0,go_sem]
  repeat' first|(refine cA (c3 _) flk ?_;simp (disch:=omega) only[eU,q0,q1,q3,q4,k5,k6,go_sem])|with_reducible apply aiA|exact clz|fail
  refine hK _ _ (i+1,v,O1) ⟨hi,i2⟩ (by simp only;omega) ?_;simp only[hSu,coC];refine Wk.temps ?_
  (simp only[go_sem,qf,qc,qa,qe];try exact we)
 have q0:((i:Int)<x.col.length)=False:=wl;obtain rfl:i=x.col.length:=by omega
 have hpf:=hpf _ (nlr _);clear hK;obtain⟨L,hL⟩:=wg (rwS x l d S x.col.length)
 rw[<-hL]at hN hpf ⊢;have eL:(L.map rwV).length=L.length:=List.length_map ..;have eC:=j9 (L.map rwV);rw[eL]at eC
 by_cases g5:1024<L.length
 ·have k7:((1024:Int)<L.length)=True:=wj;rw[ipo g5,ine (by decide)];simp (disch:=omega) only[coC,zc0,q0,k7,go_sem]
  repeat' first|(apply qb;exact rvk;simp only[go_sem])|with_reducible apply aiA|exact clz|fail
  exact VLe.tup ⟨qU,qi,trivial⟩
 have k7:((1024:Int)<L.length)=False:=wl;rw[ine g5,ipo rfl];simp (disch:=omega) only[coC,zc0,q0,k7,go_sem]
 repeat' first|with_reducible apply aiA|exact clz|fail
 refine qk (T:=λi:Nat=>qP 146 [(12,.osl (h.length+2) v 7 0 L.length),(15,.int .i64 (i:Int))])
  (H:=λi=>h++ [.mem 1 26 (coC x),.emp 1,.mem v 133 (zG (jnM L i)),O1,.emp 0,.emp 0])
  (inv:=λi=>i<=L.length) (m:=λi=>L.length-i) 0 (nzl _) (Wk.temps ?_) ?_
 ·(simp only[go_sem,qf,qc,qa,qe];try exact we)
 rintro i i1 K hK
 by_cases hi:i<L.length
 ·have q0:((i:Int)<L.length)=True:=wj;have q1:(0<=(i:Int))=True:=wj;have hlen:=qlr i1;have hat:=qAf hi;have hse:=qtS hi;have hpr:=λh0=>qAg (L:=L) h0 hi
  have hr2:=(hpf _ (zS (a:=default) hi)).2;have hp2:(L.getD (i-1) default).p.t.text.length<=64:=(hpf _ (zS (a:=default) om)).2;obtain⟨r,hrx⟩:=wg (L.getD i default)
  rw[<-hrx]at hat hse hr2;have hpv:qg0 L i=if i=0 then none else some (L.getD (i-1) default).p.t.text:=rfl
  obtain⟨pt,hpt⟩:=wg ((L.getD (i-1) default).p.t.text)
  simp only[<-hpt]at hpr hpv hp2;obtain⟨M,hM⟩:=wg (jnM L i)
  simp only[<-hM]at hpr hat hse hlen ⊢;have hiM:i<M.length:=by omega
  have gA:=qei (k:=0) hiM (by decide);have gB:=qei (k:=4) hiM (by decide);rw[hat,Nat.add_zero]at gA;rw[hat]at gB;have gA:(zG M)[i*7]? =some (.str r.p.t.text):=gA;have gB:(zG M)[i*7+4]? =some (.bool (jnB r.p.t.flags)):=gB;have gP:0<i->(zG M)[(i-1)*7]? =some (.str pt):=λh0=>by
   have:=qei (L:=M) (i:=i-1) (k:=0) om (by decide)
   rw[Nat.add_zero]at this;rw[this];show some (AV.str (M.getD (i-1) default).text)=_;rw[hpr h0]
  have hjn:=λb=>qvo (M:=M) (i:=i) b hat hiM
  have hlM:=j9 M;have eI:((i:Int)-1).toNat=i-1:=by omega
  have cA:=λh=>t93 r.p.t.text h om
  have cB:=λh=>t93 pt h om
  have hmk:mkW (qg0 L i) r=⟨r.p.t.text,r.p.c,r.u,r.d,jnB r.p.t.flags&&(match qg0 L i with|none=>false|some b=>qvE b r.p.t.text),qvh r.p.t.flags,r.p.t.name⟩:=rfl;rw[hpv]at hse hmk;obtain⟨J,hJ⟩:=wg (jnB r.p.t.flags)
  obtain⟨A,hA⟩:=wg (ke r.p.t.text)
  obtain⟨B,hB⟩:=wg (ke pt)
  obtain⟨tt,htt⟩:=wg r.p.t.text
  have hjb:qvE pt tt=if B=true then !A&& !decide (tt= [39]) else true:=by rw[hB,hA,htt];rfl
  rw[<-hJ]at gB hmk;rw[<-htt]at gA cA hmk;rw[<-htt]at hA;simp only[<-hA]at cA;simp only[<-hB]at cB;have hfv:(match (if i=0 then none else some pt:Option Str)with|none=>false|some q=>qvE q tt)=(decide (0<i)&&(if B=true then !A&& !decide (tt= [39]) else true)):=by
   by_cases g:i=0
   ·rw[ipo g,dqf om];rfl
   ·rw[ine g,dqt om];exact hjb
  have fin: ∀b,b=(J&&(decide (0<i)&&(if B=true then !A&& !decide (tt= [39]) else true)))->List.take (i*7+4) (zG M)++ [AV.bool b]++List.drop (i*7+4+1) (zG M)=zG (jnM L (i+1)):=λb hb=>by
   rw[hjn b,<-hse,hmk,hfv,<-hb,htt];rfl
  have k0:0<i->((0:Int)<i)=True:=λ_=>eqt om
  have k0':i=0->((0:Int)<i)=False:=λ_=>eqf om
  have k8:0<i->(0<=(i:Int)-1)=True:=λ_=>eqt om
  have k9:0<i->((i:Int)-1<L.length)=True:=λ_=>eqt om
  have kE:(tt= [39])=True∨(tt= [39])=False:=by by_cases g:tt= [39]<;>simp[g]
  rcases Nat.eq_zero_or_pos i with g0|g0<;>rcases kE with kE|kE<;>cases J<;>cases A<;>cases B
  all_goals
   simp (disch:=omega) only[q0,q1,gA,gB,hlM,hlen,k0,k0',decide_true,decide_false,Bool.not_true,Bool.not_false,Bool.and_true,Bool.and_false,false_and,true_and,false_implies,Bool.or_false,go_sem]
   repeat' first|(refine qj ( .bool false) ?_;simp (disch:=omega) only[q0,q1,gA,gP,hlM,hlen,eI,k8,k9,kE,decide_true,decide_false,Bool.not_true,Bool.not_false,Bool.and_true,Bool.and_false,false_and,true_and,false_implies,Bool.or_false,go_sem])|((first|refine cG (λe=>cA _) ?_ ?_|refine cG (λe=>cB _) ?_ ?_);exact flk;simp (disch:=omega) only[q0,q1,gA,gP,hlM,hlen,eI,k8,k9,kE,decide_true,decide_false,Bool.not_true,Bool.not_false,Bool.and_true,Bool.and_false,false_and,true_and,false_implies,Bool.or_true,Bool.or_false,go_sem])|with_reducible apply aiA|exact clz|fail
   first
    |rw[fin true (by simp[g0,kE])]
    |rw[fin false (by simp[g0,kE])]
   refine hK _ _ (i+1) hi om ?_;simp only[coC];refine Wk.temps ?_
   (simp only[go_sem,qf,qc,qa,qe];try exact we)
 have q0:((i:Int)<L.length)=False:=wl;obtain rfl:i=L.length:=by omega
 rw[qtR];simp (disch:=omega) only[q0,go_sem]
 repeat' first|(apply qb;exact rvk;simp only[go_sem])
 exact VLe.tup ⟨qdW (jx L).symm,qi,trivial⟩
end RC
end
section
open Go Go.Proofs AF
def qtL:List Nat:= []
def c4s:C:=
 (vU [O1 1 (.box 0 59) 0,MC 2 (.bool false)] ((vU [O1 11 (.load (some 7)) 1,O1 12 (.call 24 true) 11] (vV 12 (vX [ON 13 (.call 25 true) [],MV 2 13]))).seq (vU [vN 15 0 1,O1 16
 (.load (some 4)) 15,vN 17 4 1,LD 18 17,vN 19 5 1,LD 20 19,vN 21 6 1,LD 22 21,ON 23 (.call 17 true) [.t 16,.t 18,.t 20,.t 22],MV 14 23,O1 24 (.ext 0) 14,O1 25 (.ext 1) 14,MV 3
 24,MV 4 25] (vU [vN 27 0 1,O1 28 (.load (some 4)) 27,vN 29 4 1,LD 30 29,vN 31 5 1,LD 32 31,vN 33 6 1,LD 34 33,ON 35 (.call 26 true) [.t 28,.t 30,.t 32,.t 34],MV 26 35,O1 36
 (.ext 0) 26,O1 37 (.ext 1) 26,MV 5 36,MV 6 37] (vU [vN 39 0 1,O1 40 (.load (some 4)) 39,vN 41 4 1,LD 42 41,vN 43 5 1,LD 44 43,vN 45 6 1,LD 46 45,ON 47 (.call 27 true) [.t 40,.t
 42,.t 44,.t 46],MV 38 47,O1 48 (.ext 0) 38,O1 49 (.ext 1) 38,MV 7 48,MV 8 49] (vU [vN 51 0 1,O1 52 (.load (some 4)) 51,vN 53 4 1,LD 54 53,vN 55 5 1,LD 56 55,vN 57 6 1,LD 58
 57,ON 59 (.call 28 true) [.t 52,.t 54,.t 56,.t 58],MV 50 59,O1 60 (.ext 0) 50,O1 61 (.ext 1) 50,MV 9 60,MV 10 61] (vX [MV 62 3,MV 63 5,O2 64 (.call 29 true) 62 63,MV 65 64,MG
 66 65 true 4,MG 67 65 true 6,P2 68 65 true (.bin .eql) 66 67,PF 69 65 68,MV 70 69,MG 71 70 true 7,MG 72 70 true 9,P2 73 70 true (.call 30 true) 71 72,PF 74 70 73,MV 75 74,MG 76
 75 true 8,MG 77 75 true 10,P2 78 75 true (.bin .eql) 76 77,PF 79 75 78,MV 80 79,PN 81 80 true (.call 25 true) [],PF 82 80 81,MV 2 82])))))))
theorem qEZ:qG Tryz.prog 4 83 1 [RV.tmp 2] c4s:=fi Tryz.f4 [1] qtL []
end
