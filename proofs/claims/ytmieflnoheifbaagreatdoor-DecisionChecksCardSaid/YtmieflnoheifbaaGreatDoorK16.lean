import Derived.Test.YtmieflnoheifbaaGreatDoorK15
import Derived.Test.YtmieflnoheifbaaGreatDoorK12
import Derived.Test.YtmieflnoheifbaaGreatDoorK3
import Derived.Test.YtmieflnoheifbaaGreatDoorK5
import Derived.Test.YtmieflnoheifbaaGreatDoorK8
import Derived.Test.YtmieflnoheifbaaGreatDoorProg
import Derived.Test.YtmieflnoheifbaaGreatDoorK14
set_option linter.all false
set_option maxHeartbeats 256000000
set_option maxRecDepth 100000
section
open Go Go.Proofs AF HY LN
namespace RC
def cvN(l:List Un)(i k:Nat):Bool:=jv (λj=>decide ((l.getD j default).frm<=k)&&decide ((k:Int)<(l.getD j default).to)) i
theorem qsM(l:List Un)(k:Nat):cvN l l.length k=cvB l k:=rfl
theorem qDa(x:Co)(l:List Un)(h:wh)(hz:qad x)(hu:qbK l)(hp:kt SG h):ACalls Tryz.prog 160 [.agg (coC x),ze l] h (.int .i64 (vaE x l)) h:=by
 have c82:=λl'=>coR x (h++l') hz (hp.app l')
 obtain⟨R,hR⟩:=wg (vaE x l)
 rw[<-hR];unfold vaE rgB qcC cvA at hR;obtain⟨e,he⟩:=wg (coE x)
 have eh:=he.symm;rw[eh]at c82 hR;unfold coC at c82
 by_cases g:e=0
 case neg=>
  have k1:(e=0)=False:=eqf g;rw[ipo g]at hR;rw[hR];refine acO qq8 ?_;simp (disch:=omega) only[qsa,coC,go_sem]
  repeat' first|(refine cA (c82 _) flk ?_;simp (disch:=omega) only[k1,go_sem])|exact wa|fail
 have k1:(e=0)=True:=eqt g;rw[ine (λhc=>hc g)]at hR;have ho:=W0 (eh.trans g);have hcl:=hz.cl;have hn:=hu.n;have zl: ∀g,valL g .len [qu x.col]= .int .i64 x.col.length:=λ_=>rfl
 have zo: ∀g,okL g .len [qu x.col]=True:=λ_=>eqt trivial
 have k0:(0<=(x.col.length:Int))=True:=wl;have k2:((x.col.length:Int)<=9223372036854775807)=True:=wl;refine acO qq8 ?_;simp (disch:=omega) only[qsa,coC,go_sem]
 repeat' first|(refine cA (c82 _) flk ?_;simp (disch:=omega) only[k1,k0,zl,zo,go_sem])|with_reducible apply aiA|exact clz|fail
 all_goals try rw[itn]
 rw[qr2];have p0:bC (λ_=>false) x.col.length=bC (cvN l 0) x.col.length:=rfl;rw[p0];refine qn (T:=λi:Nat×AObj=>qO 105 [(1,ze l),(2,.op h.length 1 0),(5,.osl (h.length+1) 1 1 0 x.col.length),(6,.int .i64 i.1)])
  (H:=λi=>h++ [.mem 1 26 (coC x),.mem 1 4 (bC (cvN l i.1) x.col.length),i.2])
  (inv:=λi=>i.1<=l.length∧qy [i.2] 0=true∧ ∀j,j<i.1->unB x (beH l j) (l.getD j default)=true) (m:=λi=>l.length-i.1) (0,.emp 0) ⟨nzl _,rfl,λj hj=>absurd hj (nnz j)⟩ (Wk.temps ?_) ?_
 ·(simp only[ze,go_sem,qf,qc,qa,qe];try exact we)
 rintro⟨i,O⟩ ⟨i1,i2,i3⟩ K hK;simp only at i1 i2 i3 hK;have i2': ∀m,qy (O::m) 0=true:=λ_=>i2
 by_cases hi:i<l.length
 ·have t1:((i:Int)<l.length)=True:=wl;have t0:(0<=(i:Int))=True:=wl;have hno:unB x (beH l i) (l.getD i default)=false->R=20:=λhx=>by
   rw[hR,ipo];rw[qK.2 ⟨i,hi,by rw[hx];rfl⟩];rfl
  have hun:unB x (beH l i) (l.getD i default)= !(decide ((l.getD i default).frm<=beH l i)||(decide ((l.getD i default).frm<0)||(decide ((l.getD i default).to<=(l.getD i default).frm)||(decide ((x.col.length:Int)<(l.getD i default).to)|| !decide ((l.getD i default).rds=qbE x (l.getD i default).frm.toNat (l.getD i default).to.toNat))))):=rfl;have hbe:beH l i=if i=0 then-1 else (l.getD (i-1) default).to:=rfl
  have hcs: ∀k,cvN l (i+1) k=(cvN l i k||(decide ((l.getD i default).frm<=k)&&decide ((k:Int)<(l.getD i default).to))):=λk=>qb2 _ _
  have hrs:qiQ (l.getD i default).rds:=⟨hu.rd i,hu.sr i,hu.wd i⟩
  have hS:unB x (beH l i) (l.getD i default)=true-> ∀j,j<i+1->unB x (beH l j) (l.getD j default)=true:=λhx j hj=>by
   by_cases e:j=i
   ·subst e;exact hx
   ·exact i3 j om
  obtain⟨u,hux⟩:=wg (l.getD i default)
  have eu:=hux.symm;simp only[eu]at hno hun hcs hrs hS
  by_cases a1:u.frm<0
  ·have q1:(u.frm<0)=True:=eqt a1;rw[hno (by rw[hun,dqt a1];simp)];simp (disch:=omega) only[coC,ze,unC,t0,t1,eu,i2',q1,go_sem]
   repeat' first|(refine qj ( .bool false) ?_;simp (disch:=omega) only[zl,go_sem])|exact wa|(with_reducible first|intro _|apply aiA)|exact clz|fail
  have q1:(u.frm<0)=False:=eqf a1
  by_cases a2:u.to<=u.frm
  ·have q2:(u.to<=u.frm)=True:=eqt a2;rw[hno (by rw[hun,dqt a2];simp)];simp (disch:=omega) only[coC,ze,unC,t0,t1,eu,i2',q1,q2,go_sem]
   repeat' first|(refine qj ( .bool false) ?_;simp (disch:=omega) only[zl,go_sem])|exact wa|(with_reducible first|intro _|apply aiA)|exact clz|fail
  have q2:(u.to<=u.frm)=False:=eqf a2
  by_cases a3:(x.col.length:Int)<u.to
  ·have q3:((x.col.length:Int)<u.to)=True:=eqt a3;rw[hno (by rw[hun,dqt a3];simp)];simp (disch:=omega) only[coC,ze,unC,t0,t1,eu,i2',q1,q2,q3,zl,zo,go_sem]
   repeat' first|(refine qj ( .bool false) ?_;simp (disch:=omega) only[go_sem])|exact wa|(with_reducible first|intro _|apply aiA)|exact clz|fail
  have q3:((x.col.length:Int)<u.to)=False:=eqf a3;obtain⟨F,hF⟩: ∃F:Nat,u.frm=(F:Int):=⟨u.frm.toNat,om⟩
  obtain⟨G,hG⟩: ∃G:Nat,u.to=(G:Int):=⟨u.to.toNat,om⟩
  have c180:=λh=>qE9 x F G h ho om hcl
  have hsz:qiQ (qbE x F G):=qlZ x F (G-F) om x.sig.length (by have:=ho.sg;omega);have c179:=λh=>qFl u.rds (qbE x F G) h hrs hsz
  unfold coC at c180;rw[hF,hG,itn,itn]at hun;simp only[hF,hG]at q1 q2 q3 a1 a2 a3 hcs;have fin:unB x (beH l i) u=true->True:=λ_=>trivial
  have hlast: ∀(B:Bool),B=decide (u.rds=qbE x F G)->(¬(i≠0∧(F:Int)<=(l.getD (i-1) default).to))->unB x (beH l i) u=B:=λB hB hg=>by
   have e1:decide ((F:Int)<=beH l i)=false:=dqf (by
    rw[hbe];split
    ·omega
    ·rename_i hx
     exact λhc=>hg ⟨hx,hc⟩)
   rw[hun,e1,dqf a1,dqf a2,dqf a3,<-hB];simp
  obtain⟨D,hD⟩:=wg (qbE x F G)
  rw[<-hD]at hlast;simp only[<-hD]at c180 c179
  --behind the head of the condition:the rest
  by_cases a4:i≠0∧(F:Int)<=(l.getD (i-1) default).to
  ·obtain⟨b1,b2⟩:=a4;have hm:((i:Int)-1)=((i-1:Nat):Int):=by omega
   have m1:(((i-1:Nat):Int)<l.length)=True:=wl;have m0:(0<=((i-1:Nat):Int))=True:=wl;have t2:((0:Int)<i)=True:=wl;have hV:R=20:=hno (by
    rw[hun,hbe,ine b1,dqt b2]
    rfl)
   obtain⟨u0,hu0⟩:=wg (l.getD (i-1) default)
   have eu0:=hu0.symm;rw[eu0]at b2;have q4:((F:Int)<=u0.to)=True:=eqt b2;rw[hV];simp (disch:=omega) only[coC,ze,unC,t0,t1,t2,hm,m0,m1,eu,eu0,i2',hF,hG,q1,q2,q3,q4,zl,zo,go_sem]
   repeat' first|(refine qj ( .bool false) ?_;simp (disch:=omega) only[go_sem])|exact wa|with_reducible apply aiA|exact clz|fail
  have hlast:=λB hB=>hlast B hB a4
  have hst: ∀(z:Bool),z=decide (u.rds=D)->(z=true-> ∀j,j<i+1->unB x (beH l j) (l.getD j default)=true)∧(z=false->R=20):=λz hz=>⟨λe=>hS (by rw[hlast z hz,e]),λe=>hno (by rw[hlast z hz,e])⟩
  obtain⟨z,hzz⟩:=wg (decide (u.rds=D))
  obtain⟨hst1,hst2⟩:=hst z hzz;simp only[<-hzz]at c179;have inner:z=true-> ∀(K2:Prop) ,True:=λ_ _=>trivial
  by_cases b0:i=0
  ·have t2:((0:Int)<i)=False:=wm;cases z with
   |false=>
    rw[hst2 rfl];simp (disch:=omega) only[coC,ze,unC,t0,t1,t2,eu,i2',hF,hG,q1,q2,q3,zl,zo,go_sem]
    repeat' first|((first|refine cG (λe=>c180 _) ?_ ?_|refine cG (λe=>c179 _) ?_ ?_);exact flk;simp (disch:=omega) only[go_sem])|exact wa|(with_reducible first|intro _|apply aiA)|exact clz|fail
   |true=>
   simp (disch:=omega) only[coC,ze,unC,t0,t1,t2,eu,i2',hF,hG,q1,q2,q3,zl,zo,go_sem]
   repeat' first|((first|refine cG (λe=>c180 _) ?_ ?_|refine cG (λe=>c179 _) ?_ ?_);exact flk;simp (disch:=omega) only[go_sem])|(apply qb;exact rvk;simp only[go_sem];apply qg)|(with_reducible first|intro _|apply aiA)|exact clz|fail
   obtain⟨pf,hpf⟩: ∃pf:Nat->Nat->Bool,pf=λm k=>cvN l i k||(decide (F<=k)&&decide (k<m)):=⟨_,rfl⟩
   have p1:bC (cvN l i) x.col.length=bC (pf F) x.col.length:=UT λk _=>by
    rw[hpf];dsimp only
    by_cases h1:F<=k
    ·rw[dqf (by omega: ¬k<F)];simp
    ·rw[dqf h1];simp
   rw[p1];refine qn (T:=λm:Nat=>qO 105 [(1,ze l),(2,.op h.length 1 0),(5,.osl (h.length+1) 1 1 0 x.col.length),(6,.int .i64 i),(7,.op (h.length+2) (qo (some O)+1) 0),(8,.int .i64 m)])
    (H:=λm=>h++ [.mem 1 26 (coC x),.mem 1 4 (bC (pf m) x.col.length),.mem (qo (some O)+1) 39 [.int .i64 (F:Int),.int .i64 (G:Int),ji u.rds]])
    (inv:=λm=>F<=m∧m<=G) (m:=λm=>G-m) F ⟨nlr _,om⟩ (Wk.temps ?_) ?_
   ·(simp only[ze,unC,go_sem,qf,qc,qa,qe];try exact we)
   rintro m ⟨m1',m2'⟩ K2 hK2
   by_cases hm':m<G
   ·have r1:((m:Int)<G)=True:=wl;have r0:(0<=(m:Int))=True:=wl;have r2:((m:Int)<x.col.length)=True:=wl;have mn:m<x.col.length:=by omega
    have r3:(m<x.col.length)=True:=eqt mn;have r4:(m+1<=x.col.length)=True:=eqt mn;have gl:=U7 (pf m) x.col.length;have gs1:=qqW (p:=pf m) mn;have hpn:bC (λk=>pf m k||decide (k=m)) x.col.length=bC (pf (m+1)) x.col.length:=UT λk _=>by
     rw[hpf];dsimp only
     by_cases h1:k=m
     ·subst h1;rw[dqt (by omega:F<=k),dqt (by omega:k<k+1)];simp
     ·rw[dqf h1,Bool.or_false]
      by_cases h2:k<m
      ·rw[dqt h2,dqt (by omega:k<m+1)]
      ·rw[dqf h2,dqf (by omega: ¬k<m+1)]
    simp (disch:=omega) only[coC,ze,unC,r0,r1,r2,r4,gl,gs1,Nat.mul_one,Nat.zero_add,itn,Option.isSome_some,go_sem]
    try rw[hpn]
    refine hK2 _ _ (m+1) ⟨om,hm'⟩ om (Wk.temps ?_)
    (simp only[ze,unC,go_sem,qf,qc,qa,qe];try exact we)
   obtain rfl:m=G:=by omega
   have r1:((m:Int)<m)=False:=wm;have p2:bC (pf m) x.col.length=bC (cvN l (i+1)) x.col.length:=UT λk _=>by
    rw[hcs,hpf];dsimp only;have e1:decide ((F:Int)<=(k:Int))=decide (F<=k):=decide_eq_decide.2 om;have e2:decide ((k:Int)<(m:Int))=decide (k<m):=decide_eq_decide.2 om;rw[e1,e2]
   rw[p2];simp (disch:=omega) only[r1,go_sem];refine hK _ _ (i+1,.mem (qo (some O)+1) 39 [.int .i64 (F:Int),.int .i64 (m:Int),ji u.rds]) ⟨hi,rfl,hst1 rfl⟩ (by simp only;omega) (Wk.temps ?_)
   (simp only[ze,unC,go_sem,qf,qc,qa,qe];try exact we)
  have t2:((0:Int)<i)=True:=wl;have hm:((i:Int)-1)=((i-1:Nat):Int):=by omega
  have m1:(((i-1:Nat):Int)<l.length)=True:=wl;have m0:(0<=((i-1:Nat):Int))=True:=wl;have b4: ¬(F:Int)<=(l.getD (i-1) default).to:=λhc=>a4 ⟨b0,hc⟩
  obtain⟨u0,hu0⟩:=wg (l.getD (i-1) default)
  have eu0:=hu0.symm;rw[eu0]at b4;have q4:((F:Int)<=u0.to)=False:=eqf b4;cases z with
  |false=>
   rw[hst2 rfl];simp (disch:=omega) only[coC,ze,unC,t0,t1,t2,eu,i2',hF,hG,q1,q2,q3,zl,zo,hm,m0,m1,eu0,q4,go_sem]
   repeat' first|((first|refine cG (λe=>c180 _) ?_ ?_|refine cG (λe=>c179 _) ?_ ?_);exact flk;simp (disch:=omega) only[go_sem])|exact wa|with_reducible apply aiA|exact clz|fail
  |true=>
  simp (disch:=omega) only[coC,ze,unC,t0,t1,t2,eu,i2',hF,hG,q1,q2,q3,zl,zo,hm,m0,m1,eu0,q4,go_sem]
  repeat' first|((first|refine cG (λe=>c180 _) ?_ ?_|refine cG (λe=>c179 _) ?_ ?_);exact flk;simp (disch:=omega) only[go_sem])|with_reducible apply aiA|exact clz|fail
  obtain⟨pf,hpf⟩: ∃pf:Nat->Nat->Bool,pf=λm k=>cvN l i k||(decide (F<=k)&&decide (k<m)):=⟨_,rfl⟩
  have p1:bC (cvN l i) x.col.length=bC (pf F) x.col.length:=UT λk _=>by
   rw[hpf];dsimp only
   by_cases h1:F<=k
   ·rw[dqf (by omega: ¬k<F)];simp
   ·rw[dqf h1];simp
  rw[p1];refine qn (T:=λm:Nat=>qO 105 [(1,ze l),(2,.op h.length 1 0),(5,.osl (h.length+1) 1 1 0 x.col.length),(6,.int .i64 i),(7,.op (h.length+2) (qo (some O)+1) 0),(8,.int .i64 m)])
   (H:=λm=>h++ [.mem 1 26 (coC x),.mem 1 4 (bC (pf m) x.col.length),.mem (qo (some O)+1) 39 [.int .i64 (F:Int),.int .i64 (G:Int),ji u.rds]])
   (inv:=λm=>F<=m∧m<=G) (m:=λm=>G-m) F ⟨nlr _,om⟩ (Wk.temps ?_) ?_
  ·(simp only[ze,unC,go_sem,qf,qc,qa,qe];try exact we)
  rintro m ⟨m1',m2'⟩ K2 hK2
  by_cases hm':m<G
  ·have r1:((m:Int)<G)=True:=wl;have r0:(0<=(m:Int))=True:=wl;have r2:((m:Int)<x.col.length)=True:=wl;have mn:m<x.col.length:=by omega
   have r3:(m<x.col.length)=True:=eqt mn;have r4:(m+1<=x.col.length)=True:=eqt mn;have gl:=U7 (pf m) x.col.length;have gs1:=qqW (p:=pf m) mn;have hpn:bC (λk=>pf m k||decide (k=m)) x.col.length=bC (pf (m+1)) x.col.length:=UT λk _=>by
    rw[hpf];dsimp only
    by_cases h1:k=m
    ·subst h1;rw[dqt (by omega:F<=k),dqt (by omega:k<k+1)];simp
    ·rw[dqf h1,Bool.or_false]
     by_cases h2:k<m
     ·rw[dqt h2,dqt (by omega:k<m+1)]
     ·rw[dqf h2,dqf (by omega: ¬k<m+1)]
   simp (disch:=omega) only[coC,ze,unC,r0,r1,r2,r4,gl,gs1,Nat.mul_one,Nat.zero_add,itn,Option.isSome_some,go_sem]
   try rw[hpn]
   refine hK2 _ _ (m+1) ⟨om,hm'⟩ om (Wk.temps ?_)
   (simp only[ze,unC,go_sem,qf,qc,qa,qe];try exact we)
  obtain rfl:m=G:=by omega
  have r1:((m:Int)<m)=False:=wm;have p2:bC (pf m) x.col.length=bC (cvN l (i+1)) x.col.length:=UT λk _=>by
   rw[hcs,hpf];dsimp only;have e1:decide ((F:Int)<=(k:Int))=decide (F<=k):=decide_eq_decide.2 om;have e2:decide ((k:Int)<(m:Int))=decide (k<m):=decide_eq_decide.2 om;rw[e1,e2]
  rw[p2];simp (disch:=omega) only[r1,go_sem];refine hK _ _ (i+1,.mem (qo (some O)+1) 39 [.int .i64 (F:Int),.int .i64 (m:Int),ji u.rds]) ⟨hi,rfl,hst1 rfl⟩ (by simp only;omega) (Wk.temps ?_)
  (simp only[ze,unC,go_sem,qf,qc,qa,qe];try exact we)
 have t1:((i:Int)<l.length)=False:=wm;obtain rfl:i=l.length:=by omega
 rw[qq.2 λj hj=>by rw[i3 j hj];rfl]at hR;clear hK;simp (disch:=omega) only[ze,t1,zl,zo,coC,go_sem];refine qn (T:=λk:Nat=>qO 105 [(2,.op h.length 1 0),(5,.osl (h.length+1) 1 1 0 x.col.length),(9,.int .i64 k)])
  (H:=λ_=>h++ [.mem 1 26 (coC x),.mem 1 4 (bC (cvN l l.length) x.col.length),O])
  (inv:=λk=>k<=x.col.length∧ ∀j,j<k->(!cvB l j&& !cmB x j)=false) (m:=λk=>x.col.length-k) 0 ⟨nzl _,λj hj=>absurd hj (nnz j)⟩ (Wk.temps ?_) ?_
 ·(simp only[go_sem,qf,qc,qa,qe];try exact we)
 rintro k ⟨k1',k2'⟩ K hK
 by_cases hk:k<x.col.length
 ·have t1:((k:Int)<x.col.length)=True:=wl;have t0:(0<=(k:Int))=True:=wl;have r3:(k<x.col.length)=True:=eqt hk;have r4:(k+1<=x.col.length)=True:=eqt hk;have gl:=U7 (cvN l l.length) x.col.length;have gg:=qgh (p:=cvN l l.length) hk;rw[qsM]at gg;have c181:=λh=>qEx x k h ho hk
  have hno:(!cvB l k&& !cmB x k)=true->R=20:=λhx=>by
   rw[hR,qK.2 ⟨k,hk,hx⟩];rfl
  have hS:(!cvB l k&& !cmB x k)=false-> ∀j,j<k+1->(!cvB l j&& !cmB x j)=false:=λhx j hj=>by
   by_cases e:j=k
   ·subst e;exact hx
   ·exact k2' j om
  obtain⟨A,hA⟩:=wg (cvB l k)
  obtain⟨B,hB⟩:=wg (cmB x k)
  rw[<-hA,<-hB]at hno hS;rw[<-hA]at gg;simp only[<-hB]at c181;obtain⟨c,hcx⟩:=wg (x.col.getD k [])
  have ec:=hcx.symm;simp only[ec]at c181;unfold coC at c181;have zc:qu x.col= .sl x.col.length λi=> [qv (x.col.getD i [])]:=rfl
  cases A with
  |true=>
   simp (disch:=omega) only[coC,zc,t0,t1,r3,gl,gg,ec,Nat.mul_one,Nat.zero_add,itn,Option.isSome_some,Option.getD_some,go_sem]
   repeat' first|(refine qj ( .bool false) ?_;simp (disch:=omega) only[go_sem])|with_reducible apply aiA|exact clz|fail
   refine hK _ _ (k+1) ⟨hk,hS rfl⟩ om (Wk.temps ?_)
   (simp only[go_sem,qf,qc,qa,qe];try exact we)
  |false=>
   cases B with
   |true=>
    simp (disch:=omega) only[coC,zc,t0,t1,r3,gl,gg,ec,Nat.mul_one,Nat.zero_add,itn,Option.isSome_some,Option.getD_some,go_sem]
    repeat' first|(refine cG (λe=>c181 _) flk ?_;simp (disch:=omega) only[go_sem])|with_reducible apply aiA|exact clz|fail
    refine hK _ _ (k+1) ⟨hk,hS rfl⟩ om (Wk.temps ?_)
    (simp only[go_sem,qf,qc,qa,qe];try exact we)
   |false=>
    rw[hno rfl];simp (disch:=omega) only[coC,zc,t0,t1,r3,gl,gg,ec,Nat.mul_one,Nat.zero_add,itn,Option.isSome_some,Option.getD_some,go_sem]
    repeat' first|(refine cG (λe=>c181 _) flk ?_;simp (disch:=omega) only[go_sem])|exact wa|with_reducible apply aiA|exact clz|fail
 have t1:((k:Int)<x.col.length)=False:=wm;have hV:R=0:=by
  rw[hR,qq.2 λj hj=>k2' j om];rfl
 rw[hV];simp (disch:=omega) only[t1,zl,zo,coC,go_sem]
 repeat' first|exact wa|with_reducible apply aiA|exact clz|fail
end RC
end
section
open Go Go.Proofs AF
end
section
open Go Go.Proofs AF HY LN
namespace RC
theorem qg0(h:wh)(L:List Int):qk h (qv L)=some (L.length,qS L):=by
 show some (L.length,_)=_;rw[fmI]
end RC
end
section
open Go Go.Proofs AF
def qbQ:List Nat:= []
def qBG:C:=
 (vU [ON 4 (.nilo 0 1 3) []] ((vU [MV 9 1,vP 10 .lss 9 0] (vV 10 C.bad)).seq (vU [MV 13 0,O1 14 .len 13,O1 15 (.conv .u64) 14,MV 16 1,O1 17 (.conv .u64) 16,O2 18 (.call 144 true)
 15 17,MV 12 18,O1 19 (.ext 0) 12,O1 20 (.ext 1) 12,MV 5 19,MV 6 20] ((vU [MV 21 5,BC 22 .gtr 21 (.int .u64 0),MV 23 22,vS 24 23 6,vT 25 23 (.bin .gtr) 24 (.int .u64
 9223372036854775807),PT 26 23 25] (vV 26 C.bad)).seq (vU [MV 28 6,O1 29 (.conv .i64) 28,⟨some 30,none,.mkslc 1 1 3 [i6 0] 8,[.t 29,.t 29]⟩,MV 7 30] (vU [MV 31 7,MV 32 0,O2 33
 (.cpy 1) 31 32,MV 8 33] ((C.block 0 ((v6 34 8 7 0).seq (C.block 1 (vY [MV 38 8,MV 39 7,MV 40 8,O2 41 (.slc 1 true false) 39 40,MV 42 7,MV 43 8,O2 44 (.slc 1 false true) 42
 43,O2 45 (.cpy 1) 41 44,BI 46 .add 38 45,MV 8 46]))).loop).seq (vX [MV 47 7,MV 4 47]))))))))
theorem qyP:qI Tryz.prog 68 48 2 [RV.tmp 4] qBG:=fi Tryz.f68 [4,30] qbQ []
def qvL:C:=
 (vU [MC 4 (.int .u64 0),MC 5 (.int .u64 0)] ((C.cond (.c (.bool false)) (vU [MV 11 0,O1 12 (.conv .u32) 11,MV 13 1,O1 14 (.conv .u32) 13,O2 15 (.call 217 true) 12 14,MV 10 15,O1
 16 (.ext 0) 10,O1 17 (.ext 1) 10,MV 6 16,MV 7 17] (vX [MV 18 6,O1 19 (.conv .u64) 18,MV 20 7,O1 21 (.conv .u64) 20,MV 4 19,MV 5 21])) C.skip).seq (vU [MV 23 0,MV 24 1,O2 25
 (.call 218 true) 23 24,MV 22 25,O1 26 (.ext 0) 22,O1 27 (.ext 1) 22,MV 8 26,MV 9 27] (vX [MV 28 8,MV 29 9,MV 4 28,MV 5 29]))))
theorem qxy:qI Tryz.prog 144 30 0 [RV.tmp 4,RV.tmp 5] qvL:=fi Tryz.f144 [] qbQ []
def qv3:C:=
 (vU [MC 4 (.int .u64 0),MC 5 (.int .u64 0)] (vU [MV 14 0,BC 15 .and 14 (.int .u64 4294967295),MV 6 15] (vU [MV 16 0,BC 17 .shr 16 (.int .u64 32),MV 7 17] (vU [MV 18 1,BC 19 .and
 18 (.int .u64 4294967295),MV 8 19] (vU [MV 20 1,BC 21 .shr 20 (.int .u64 32),MV 9 21] (vU [MV 22 6,MV 23 8,BI 24 .mul 22 23,MV 10 24] (vU [MV 25 7,MV 26 8,BI 27 .mul 25 26,MV
 28 10,BC 29 .shr 28 (.int .u64 32),BI 30 .add 27 29,MV 11 30] (vU [MV 31 11,BC 32 .and 31 (.int .u64 4294967295),MV 12 32] (vU [MV 33 11,BC 34 .shr 33 (.int .u64 32),MV 13 34]
 (vU [MV 35 12,MV 36 6,MV 37 9,BI 38 .mul 36 37,BI 39 .add 35 38,MV 12 39] (vU [MV 40 7,MV 41 9,BI 42 .mul 40 41,MV 43 13,BI 44 .add 42 43,MV 45 12,BC 46 .shr 45 (.int .u64
 32),BI 47 .add 44 46,MV 4 47] (vX [MV 48 0,MV 49 1,BI 50 .mul 48 49,MV 5 50]))))))))))))
theorem qxR:qI Tryz.prog 218 51 0 [RV.tmp 4,RV.tmp 5] qv3:=fi Tryz.f218 [] qbQ []
def qBe:C:=
 (vU [ON 2 (.nilo 0 3 39) []] ((vU [MV 3 0,O1 4 (.isnil .slice false) 3] (vV 4 (vX [ON 2 (.nilo 0 3 39) []]))).seq (vX [⟨some 5,none,.bslc 1 3 0 39 [i6 0,i6 0,.nl] [],[]⟩,MV 6
 0,O2 7 (.app 2 3 39 40) 5 6,MV 2 7])))
theorem qtc:qI Tryz.prog 71 8 3 [RV.tmp 2] qBe:=fi Tryz.f71 [2,5,7] qbQ []
end
section
open Go Go.Proofs AF HY LN
namespace RC
def U4(L:List Un):wj:=L.flatMap unC
theorem qmV(u:Un):(unC u).length=3:=rfl
theorem qbZ(L:List Un):(U4 L).length=L.length*3:=by
 unfold U4
 induction L with
 |nil=>rfl
 |cons a L ih=>rw[List.flatMap_cons,lap,ih,lco,qmV];omega
theorem qqz(A B:List Un):U4 (A++B)=U4 A++U4 B:=by simp[U4]
theorem qqA(a:Un):U4 [a]=unC a:=by simp[U4]
theorem qmW(L:List Un): ∀i,(U4 L).drop (i*3)=U4 (L.drop i):=by
 induction L with
 |nil=>intro i;simp[U4]
 |cons a L ih=>
  intro i;cases i with
  |zero=>simp
  |succ i=>
   rw[show U4 (a::L)=unC a++U4 L from rfl,show (a::L).drop (i+1)=L.drop i from rfl,<-ih i];rw[show (i+1)*3=(unC a).length+i*3 by rw[qmV];omega,List.drop_append,List.drop_eq_nil_of_le om,lna,Nat.add_sub_cancel_left]
theorem qg9{L:List Un}{i:Nat}(hi:i<L.length):((U4 L).drop (i*3)).take 3=unC (L.getD i default):=by
 rw[qmW,List.drop_eq_getElem_cons hi,gdqA,zz hi];rfl
theorem qoI(L:List Un):((List.range L.length).flatMap λi=>unC (L.getD i default))=U4 L:=by
 unfold U4;have e:L=(List.range L.length).map λi=>L.getD i default:=by
  apply List.ext_getElem (by simp);intro i h1 h2;simp[gdqA,h1]
 conv=>rhs;rw[e]
 rw[List.flatMap_map]
theorem qmB(h:wh)(L:List Un):qk h (ze L)=some (L.length,U4 L):=by
 show some (L.length,_)=_;rw[qoI]
theorem qdU(L:List Un)(n:Nat): ∀c∈U4 L,qT n c=true:=by
 intro c hc;unfold U4 at hc;obtain⟨x,_,hx⟩:=List.mem_flatMap.1 hc;simp only[unC,List.mem_cons,List.not_mem_nil,or_false]at hx;rcases hx with rfl|rfl|rfl<;>rfl
theorem qlb{L:List Un}(h:L≠ []):valP (.isnil .slice false) [ze L]= .bool false:=by
 unfold ze;rw[qaW,ine (by simpa using h)];rfl
theorem qEu(L:List Un)(h:wh)(k:Nat)(hk:qy h k=true)(h0:L≠ [])(hl:L.length<=1000000000):
  ACalls Tryz.prog 71 [ze L] h (.osl k (qo (qt k h)+1) 3 0 L.length) (qr k h (.mem (qo (qt k h)+1) 39 (U4 L))):=by
 have s1:=λh=>qmB h L
 have eP:=qbZ L;have hp:=List.length_pos_iff.2 h0;have z0:=qlb h0;have z1:okP (.isnil .slice false) [ze L]=True:=eqt trivial;refine qfb qtc k (by simp) ?_;simp only[lco,lnl,Nat.reduceAdd,Nat.reduceSub,List.replicate,lca,lna];simp (disch:=omega) only[qBe,s1,z0,z1,go_sem]
 repeat' first|(with_reducible apply aiA)
 all_goals first
  |omega
  |contradiction
  |skip
 all_goals try rfl
 exact⟨h.length+1,2,3,0,L.length,39,U4 L,_,⟨trivial,trivial⟩,rfl,rfl,om,by simp only[go_sem],qdU L _,hk,rfl,rfl⟩
theorem qd5{n:Int}(h0:0<=n)(h1:n<18446744073709551616):IntKind.u64.wrap n=n:=by
 have e1:(2:Int)^IntKind.bits IntKind.u64=18446744073709551616:=rfl;have e3:IntKind.signed IntKind.u64=false:=rfl;unfold IntKind.wrap;rw[e1,e3];simp only[Bool.false_and,Bool.false_eq_true,if_false];omega
theorem qmk{a:Int}:qvk .u64 a 32=a/4294967296:=by
 have e:(2:Int)^(min (32:Int).toNat IntKind.u64.bits)=4294967296:=rfl;unfold qvk;rw[e,Int.fdiv_eq_ediv_of_nonneg _ om]
theorem qvt{n:Nat}(hn:n<=1000000000):qnt .u64 (n:Int) 4294967295=n:=by
 have e:IntKind.u64.bits=64:=rfl;unfold qnt;rw[e,BitVec.toNat_and,BitVec.toNat_ofInt,BitVec.toNat_ofInt];have e2:((n:Int)%((2^64:Nat):Int)).toNat=n:=by
  rw[show ((2^64:Nat):Int)=18446744073709551616 by rfl];omega
 have e3:((4294967295:Int)%((2^64:Nat):Int)).toNat=2^32-1:=by rfl
 rw[e2,e3,Nat.and_two_pow_sub_one_eq_mod,qd5 om om];omega
theorem qE1(n:Nat)(h:wh)(hn:n<=1000000000):ACalls Tryz.prog 218 [.int .u64 1,.int .u64 (n:Int)] h (.tup [.int .u64 0,.int .u64 (n:Int)]) h:=by
 have e0:qvk .u64 1 32=0:=by rw[qmk];rfl
 have e1:qvk .u64 (n:Int) 32=0:=by rw[qmk];omega
 have e2:qvk .u64 0 32=0:=by rw[qmk];rfl
 have e3:qnt .u64 1 4294967295=1:=by decide+kernel
 have e4:qnt .u64 0 4294967295=0:=by decide+kernel
 have e5:IntKind.u64.wrap 0=0:=by decide
 have e6:IntKind.u64.wrap (n:Int)=n:=qd5 om om;refine acO qxR ?_;simp (disch:=omega) only[qv3,go_sem]
 repeat' first|(apply qh;exact rvk;simp only[go_sem])|with_reducible apply aiA|exact clz|fail
 have e7:=qvt hn;simp only[e0,e1,e2,e3,e4,e5,e6,e7,Int.zero_mul,Int.mul_zero,Int.one_mul,Int.add_zero];exact qi
theorem qDX(n:Nat)(h:wh)(hn:n<=1000000000):ACalls Tryz.prog 144 [.int .u64 1,.int .u64 (n:Int)] h (.tup [.int .u64 0,.int .u64 (n:Int)]) h:=by
 have c1:=λh=>qE1 n h hn
 refine acO qxy ?_;simp (disch:=omega) only[qvL,go_sem]
 repeat' first|(refine cA (c1 _) flk ?_;simp (disch:=omega) only[go_sem])|exact wc|with_reducible apply aiA|exact clz|fail
def rpC(a:Int)(n i:Nat):wj:=gC (λj=> .int .i64 (if j<i then a else 0)) n
theorem qle(n:Nat):zk [.int .i64 0] n=rpC 0 n 0:=by
 refine List.ext_getElem? λk=> ?_
 obtain⟨h1,h2⟩:=UK [AV.int .i64 0] n
 by_cases hk:k<n
 ·unfold rpC;rw[qay hk,ine (nnz _)]
  have:=h2 k (by simp;omega)
  rw[this,List.length_singleton,Nat.mod_one];rfl
 ·rw[List.getElem?_eq_none (by rw[h1];simp;omega),List.getElem?_eq_none (by unfold rpC;rw[wi];omega)]
theorem qak(a:Int)(n i:Nat):(rpC a n i).length=n:=by unfold rpC;rw[wi]
theorem qaj{a:Int}{n i k:Nat}(hk:k<n):(rpC a n i)[k]? =some (.int .i64 (if k<i then a else 0)):=by unfold rpC;rw[qay hk]
theorem qpZ(a:Int){n i j:Nat}(hj:j<=i)(hi:i+j<=n):(rpC a n i).take i++(rpC a n i).take j++(rpC a n i).drop (i+j)=rpC a n (i+j):=by
 have hl:=qak a n i;have l1:((rpC a n i).take i).length=i:=by rw[List.length_take];omega
 have l2:((rpC a n i).take j).length=j:=by rw[List.length_take];omega
 refine List.ext_getElem? λk=> ?_
 by_cases hk:k<n
 ·rw[qaj hk]
  by_cases g1:k<i
  ·rw[List.append_assoc,List.getElem?_append_left om,List.getElem?_take,ipo g1,qaj hk,ipo g1,ipo om]
  ·rw[List.append_assoc,List.getElem?_append_right om,l1]
   by_cases g2:k-i<j
   ·rw[List.getElem?_append_left om,List.getElem?_take,ipo g2,qaj om,ipo om,ipo om]
   ·rw[List.getElem?_append_right om,l2,List.getElem?_drop,show i+j+(k-i-j)=k by omega,qaj hk,ine g1,ine om]
 ·rw[List.getElem?_eq_none (by simp only[lap,l1,l2,List.length_drop,hl];omega),List.getElem?_eq_none (by rw[qak];omega)]
theorem qun(a:Int){n:Nat}(hn:0<n):List.take 1 (qS [a])++List.drop 1 (rpC 0 n 0)=rpC a n 1:=by
 refine List.ext_getElem? λk=> ?_
 by_cases hk:k<n
 ·rw[qaj hk];cases k with
  |zero=>rfl
  |succ k=>
   rw[List.getElem?_append_right (by simp[qS]),List.getElem?_drop];rw[show 1+(k+1-(List.take 1 (qS [a])).length)=k+1 by simp[qS];omega,qaj hk,ine (nnz _),ine om]
 ·rw[List.getElem?_eq_none (by simp[qS,qak];omega),List.getElem?_eq_none (by rw[qak];omega)]
theorem qum(a:Int)(n:Nat):rpC a n n=qS (List.replicate n a):=by
 refine List.ext_getElem? λk=> ?_
 by_cases hk:k<n
 ·rw[qaj hk,ipo hk];unfold qS;rw[List.getElem?_map,List.getElem?_replicate,ipo hk];rfl
 ·rw[List.getElem?_eq_none (by rw[qak];omega),List.getElem?_eq_none (by simp[qS];omega)]
theorem qFg(a:Int)(n:Nat)(h:wh)(k:Nat)(hk:qy h k=true)(h0:0<n)(hl:n<=1000000000):
  ACalls Tryz.prog 68 [qv [a],.int .i64 (n:Int)] h (.osl k (qo (qt k h)+1) 1 0 n) (qr k h (.mem (qo (qt k h)+1) 3 (qS (List.replicate n a)))):=by
 have s1:=λh=>qg0 h [a]
 have c1:=λh=>qDX n h hl
 have k1:((n:Int)<0)=False:=wm;have k2:((9223372036854775807:Int)<n)=False:=wm;have z1: ∀g,valL g .len [qv [a]]= .int .i64 1:=λ_=>rfl
 have z2: ∀g,okL g .len [qv [a]]=True:=λ_=>eqt trivial
 have e5:IntKind.u64.wrap 1=1:=by decide
 have e6:IntKind.u64.wrap (n:Int)=n:=qd5 om om;refine qfb qyP k (by simp) ?_;simp only[lco,lnl,Nat.reduceAdd,Nat.reduceSub,List.replicate,lca,lna];simp (disch:=omega) only[qBG,z1,z2,k1,e5,e6,go_sem]
 repeat' first|(refine cA (c1 _) flk ?_;simp (disch:=omega) only[s1,k2,go_sem])|(with_reducible first|intro _|apply aiA)|exact clz|fail
 ·rw[qle,qak];exact nlr _
 ·rfl
 have e8:min 1 n=1:=by omega
 rw[e8,qle,qun a h0];refine qn (T:=λi:Nat=>qO 48 [(7,.osl (h.length+1) 1 1 0 n),(8,.int .i64 i)]) (H:=λi=>h++ [.emp 1,.mem 1 3 (rpC a n i)])
  (inv:=λi=>0<i∧i<=n) (m:=λi=>n-i) 1 ⟨Nat.one_pos,h0⟩ (Wk.temps ?_) ?_
 ·(simp only[go_sem,qf,qc,qa,qe];try exact we)
 rintro i ⟨i1,i2⟩ K hK;have hrl:=qak a n i
 by_cases hi:i<n
 ·have q1:((i:Int)<n)=True:=wl;have q2:(i<=n)=True:=eqt i2;simp (disch:=omega) only[q1,q2,hrl,Nat.sub_zero,Option.isSome_some,Option.getD_some,if_true,go_sem]
  repeat' first|with_reducible apply aiA|exact clz|fail
  ·rw[List.length_take,hrl];omega
  have e9:List.take (min i (n-i)) (List.take i (rpC a n i))=List.take (min i (n-i)) (rpC a n i):=by rw[List.take_take,show min (min i (n-i)) i=min i (n-i) by omega]
  rw[e9,qpZ a om om];refine hK _ _ (i+min i (n-i)) ⟨om,om⟩ om (Wk.temps ?_)
  (simp only[Int.natCast_add,go_sem,qf,qc,qa,qe];try exact we)
 ·have q1:((i:Int)<n)=False:=wm;obtain rfl:i=n:=by omega
  simp (disch:=omega) only[q1,go_sem];rw[qum];exact⟨h.length+1,1,1,0,i,3,qS (List.replicate i a),_,⟨trivial,trivial⟩,rfl,rfl,om,by simp only[go_sem],λc hc=>by
   unfold qS at hc;obtain⟨z,_,rfl⟩:=List.mem_map.1 hc
   rfl,hk,rfl,rfl⟩
end RC
end
section
open Go Go.Proofs AF
def qo4:List Nat:= [69,68,71]
@[go_sem]def vA:DT:= DT.one ⟨some 78,none,.app 6 3 39 40,[.t 69,.t 77]⟩ (DT.one ⟨some 79,none,.len,[.t 78]⟩ DT.nil)
@[go_sem]def vJ:DT:= DT.one ⟨some 77,none,.bslc 5 3 1 39 [i6 0,i6 0,.nl] [(0,3)],[.t 76]⟩ vA
@[go_sem]def vq:DT:= DT.one ⟨some 76,none,.build [i6 0,i6 0,.nl] [(0,1),(1,1)],[.t 72,.t 75]⟩ vJ
@[go_sem]def vr:DT:= DT.one ⟨some 76,none,.build [i6 0,i6 0,.nl] [(0,1),(1,1)],[.t 72,.t 75]⟩ ((DT.one ⟨some 69,none,.call 71 false,[.t 68]⟩ vJ).two (DT.one ⟨some 77,none,.bslc 5 3 1 39 [i6 0,i6
 0,.nl] [(0,3)],[.t 76]⟩ (DT.one ⟨some 69,none,.call 71 false,[.t 68]⟩ vA)))
@[go_sem]def vB:DT:= DT.one ⟨some 75,none,.len,[.t 74]⟩ vq
@[go_sem]def vv:DT:= DT.one ⟨some 74,none,.load none,[.t 73]⟩ vB
@[go_sem]def vD:DT:= DT.one ⟨some 72,none,.len,[.t 71]⟩ (DT.one ⟨some 73,none,.fldA 3,[.t 4]⟩ vv)
@[go_sem]def vE:DT:= (DT.one ⟨some 69,none,.call 71 false,[.t 68]⟩ (DT.one ⟨some 72,none,.len,[.t 71]⟩ vq)).two (DT.one ⟨some 72,none,.len,[.t 71]⟩ vr)
@[go_sem]def vF:DT:= (DT.one ⟨some 69,none,.call 71 false,[.t 68]⟩ vB).two (DT.one ⟨some 75,none,.len,[.t 74]⟩ vr)
@[go_sem]def vu:DT:= (DT.one ⟨some 69,none,.call 71 false,[.t 68]⟩ (DT.one ⟨some 72,none,.len,[.t 71]⟩ vB)).two ((DT.one ⟨some 72,none,.len,[.t 71]⟩ vF).two (DT.one ⟨some 75,none,.len,[.t 74]⟩ vE))
@[go_sem]def vy:DT:= (DT.one ⟨some 69,none,.call 71 false,[.t 68]⟩ vv).two (DT.one ⟨some 74,none,.load none,[.t 73]⟩ vF)
@[go_sem]def vC:DT:= (DT.one ⟨some 69,none,.call 71 false,[.t 68]⟩ (DT.one ⟨some 72,none,.len,[.t 71]⟩ vv)).two ((DT.one ⟨some 72,none,.len,[.t 71]⟩ vy).two (DT.one ⟨some 74,none,.load none,[.t 73]⟩
 vu))
@[go_sem]def vG:DT:= DT.one ⟨some 71,none,.load none,[.t 70]⟩ (DT.one ⟨some 72,none,.len,[.t 71]⟩ vv)
@[go_sem]def vH:DT:= DT.one ⟨some 71,none,.load none,[.t 70]⟩ (DT.one ⟨some 72,none,.len,[.t 71]⟩ vB)
@[go_sem]def vI:DT:= DT.one ⟨some 71,none,.load none,[.t 70]⟩ (DT.one ⟨some 72,none,.len,[.t 71]⟩ vq)
@[go_sem]def vx:DT:= (DT.one ⟨some 69,none,.call 71 false,[.t 68]⟩ vI).two (DT.one ⟨some 71,none,.load none,[.t 70]⟩ vE)
@[go_sem]def vz:DT:= (DT.one ⟨some 69,none,.call 71 false,[.t 68]⟩ vH).two ((DT.one ⟨some 71,none,.load none,[.t 70]⟩ vu).two (DT.one ⟨some 75,none,.len,[.t 74]⟩ vx))
@[go_sem]def vt:DT:= (DT.one ⟨some 69,none,.call 71 false,[.t 68]⟩ vG).two ((DT.one ⟨some 71,none,.load none,[.t 70]⟩ vC).two (DT.one ⟨some 74,none,.load none,[.t 73]⟩ vz))
def qe5:C:=
 (vU [O1 4 (.box 0 26) 0,ON 8 (.nilo 1 7 133) [],vO 9 0] ((vU [O1 26 (.load (some 4)) 4,MV 27 1,O2 28 (.call 66 true) 26 27,MV 10 28] (vU [MV 29 10,vP 30 .neq 29 0] (vV 30 (vX
 [MV 31 10,ON 8 (.nilo 1 7 133) [],MV 9 31])))).seq ((vU [MV 32 3,vP 33 .lss 32 0,MV 34 33,vS 35 34 3,v7 36 34 1 4,v8 37 34 36,vQ 38 34 .len 37,vR 39 34 (.bin .geq) 35 38,PT 40
 34 39] (vV 40 (vX [ON 8 (.nilo 1 7 133) [],vO 9 2]))).seq (vU [O1 42 (.load (some 4)) 4,MV 43 1,MV 44 2,ON 45 (.call 67 true) [.t 42,.t 43,.t 44],MV 41 45,O1 46 (.ext 0) 41,O1
 47 (.ext 1) 41,MV 11 46,MV 12 47] ((vU [MV 48 12,vP 49 .neq 48 0] (vV 49 (vX [MV 50 12,ON 8 (.nilo 1 7 133) [],MV 9 50]))).seq (vU [⟨some 51,none,.bslc 2 1 1 3 [i6 0]
 [(0,1)],[.c (i6 (-1))]⟩,MV 52 1,O1 53 .len 52,O2 54 (.call 68 false) 51 53,MV 13 54] ((vU [MV 55 11,O1 56 .len 55,vO 57 0] (C.block 0 (vU [BI 58 .lss 57 56] ((vW 58 0).seq
 ((C.block 1 (vU [MV 59 57,O2 60 (.idxA 1) 55 57,LD 61 60,MV 14 59,MV 15 61] (vY [MV 62 13,MV 63 15,MV 64 14,O2 65 (.idxA 1) 62 63,ST 1 65 64]))).seq (vY [vP 66 .add 57 1,MV 57
 66])))).loop)).seq (vU [⟨some 16,none,.alloc 3 45 [.nl],[]⟩] ((C.wk.seq (vY [O1 67 (.mkfn (Fn.func 69) 0) 16,⟨some 17,none,.alloc 4 135 [.nilfn],[]⟩,ST 1 17 67])).seq (vU [vO
 18 0] (((C.draw (DT.one ⟨some 68,none,.mv,[.t 1]⟩ (DT.one ⟨some 80,none,.mv,[.c (i6 0)]⟩ ((DT.one ⟨some 69,none,.call 71 false,[.t 68]⟩ (DT.one ⟨some 70,none,.fldA 3,[.t 4]⟩
 (DT.one ⟨some 71,none,.load none,[.t 70]⟩ vD))).two ((DT.one ⟨some 70,none,.fldA 3,[.t 4]⟩ ((DT.one ⟨some 69,none,.call 71 false,[.t 68]⟩ (DT.one ⟨some 71,none,.load none,[.t
 70]⟩ vD)).two ((DT.one ⟨some 71,none,.load none,[.t 70]⟩ ((DT.one ⟨some 69,none,.call 71 false,[.t 68]⟩ vD).two ((DT.one ⟨some 72,none,.len,[.t 71]⟩ ((DT.one ⟨some
 69,none,.call 71 false,[.t 68]⟩ (DT.one ⟨some 73,none,.fldA 3,[.t 4]⟩ vv)).two (DT.one ⟨some 73,none,.fldA 3,[.t 4]⟩ vy))).two (DT.one ⟨some 73,none,.fldA 3,[.t 4]⟩ vC)))).two
 (DT.one ⟨some 73,none,.fldA 3,[.t 4]⟩ vt)))).two (DT.one ⟨some 73,none,.fldA 3,[.t 4]⟩ ((DT.one ⟨some 69,none,.call 71 false,[.t 68]⟩ (DT.one ⟨some 70,none,.fldA 3,[.t 4]⟩
 vG)).two ((DT.one ⟨some 70,none,.fldA 3,[.t 4]⟩ vt).two (DT.one ⟨some 74,none,.load none,[.t 73]⟩ ((DT.one ⟨some 69,none,.call 71 false,[.t 68]⟩ (DT.one ⟨some 70,none,.fldA
 3,[.t 4]⟩ vH)).two ((DT.one ⟨some 70,none,.fldA 3,[.t 4]⟩ vz).two (DT.one ⟨some 75,none,.len,[.t 74]⟩ ((DT.one ⟨some 69,none,.call 71 false,[.t 68]⟩ (DT.one ⟨some 70,none,.fldA
 3,[.t 4]⟩ vI)).two (DT.one ⟨some 70,none,.fldA 3,[.t 4]⟩ vx)))))))))))))).seq (C.block 2 (vU [BI 81 .lss 80 79] ((vW 81 2).seq ((C.block 3 (vU [MV 82 80,O2 83 (.idxA 3) 78
 80,O1 84 (.load (some 3)) 83,⟨some 19,none,.alloc 7 3 [i6 0],[]⟩,⟨some 20,none,.alloc 8 39 [i6 0,i6 0,.nl],[]⟩,ST 1 19 82,ST 3 20 84] ((vU [O1 85 (.load (some 4)) 4,MV 86 18,vN
 87 0 20,LD 88 87,MV 89 3,ON 90 (.call 72 true) [.t 85,.t 86,.t 88,.t 89]] (C.block 4 (C.range (.t 90) [91] (vY [⟨some 21,none,.alloc 9 131 [.str [],.str [],.str [],i6 0,i6
 0,.str [],i6 0],[]⟩,ST 7 21 91]) (C.block 5 (vY [LD 92 17,O1 93 (.load (some 7)) 21,ON 94 .callv [.t 92,.t 93,.c (i6 (-1)),.c (i6 (-1))]]))))).seq (vU [vN 95 1 20,LD 96 95,MV
 18 96] (C.block 6 (vU [LD 127 19,MV 128 1,O1 129 .len 128,BI 130 .eql 127 129,MV 126 130] (C.cond (.t 126) C.skip (vU [MV 132 13,LD 133 19,O2 134 (.idxA 1) 132 133,LD 135
 134,vP 136 .lss 135 0,MV 131 136] (C.cond (.t 131) (vU [O1 137 (.load (some 4)) 4,vN 138 0 20,LD 139 138,vN 140 1 20,LD 141 140,MV 142 3,ON 143 (.call 72 true) [.t 137,.t
 139,.t 141,.t 142]] (C.block 9 (C.range (.t 143) [144] (vY [⟨some 22,none,.alloc 10 131 [.str [],.str [],.str [],i6 0,i6 0,.str [],i6 0],[]⟩,ST 7 22 144]) (C.block 10 (vY [LD
 145 17,O1 146 (.load (some 7)) 22,LD 147 19,ON 148 .callv [.t 145,.t 146,.t 147,.c (i6 (-1))]]))))) (vU [MV 97 2,MV 98 13,LD 99 19,O2 100 (.idxA 1) 98 99,LD 101 100,O2 102
 (.idxA 4) 97 101,O1 103 (.load (some 4)) 102,⟨some 23,none,.alloc 11 65 [i6 0,.str [],i6 0,.str []],[]⟩,ST 4 23 103] ((C.draw (DT.uni ⟨some 104,none,.call 73 true,[]⟩ (DT.one
 ⟨some 105,none,.fldA 0,[.t 23]⟩ (DT.one ⟨some 106,none,.load none,[.t 105]⟩ (DT.one ⟨some 107,none,.aidx 4 1 none,[.t 104,.t 106]⟩ (DT.one ⟨some 108,none,.load (some 4),[.t 4]⟩
 (DT.one ⟨some 109,none,.load (some 3),[.t 20]⟩ (DT.one ⟨some 110,none,.load (some 4),[.t 23]⟩ (DT.uni ⟨some 111,none,.callv,[.t 107,.t 108,.t 109,.t 110]⟩ (DT.one ⟨some
 112,none,.len,[.t 111]⟩ (DT.one ⟨some 113,none,.mv,[.c (i6 0)]⟩ DT.nil))))))))))).seq (C.block 7 (vU [BI 114 .lss 113 112] ((vW 114 7).seq ((C.block 8 (vU [O2 115 (.idxA 7) 111
 113,O1 116 (.load (some 7)) 115,⟨some 25,none,.alloc 12 131 [.str [],.str [],.str [],i6 0,i6 0,.str [],i6 0],[]⟩,ST 7 25 116] (vY [LD 117 17,O1 118 (.load (some 7)) 25,LD 119
 19,MV 120 13,LD 121 19,O2 122 (.idxA 1) 120 121,LD 123 122,ON 124 .callv [.t 117,.t 118,.t 119,.t 123]]))).seq (vY [vP 125 .add 113 1,MV 113 125])))).loop)))))))))))).seq (vY
 [vP 149 .add 80 1,MV 80 149])))).loop)).seq ((vU [LD 150 16,O1 151 .len 150,vP 152 .gtr 151 1024] (vV 152 (vX [ON 8 (.nilo 1 7 133) [],vO 9 4]))).seq (vX [LD 153 16,MV 8 153,vO
 9 0])))))))))))))
theorem qah:qI Tryz.prog 17 154 16 [RV.tmp 8,RV.tmp 9] qe5:=fi Tryz.f17 [4,8,51,16,17,77,78,19,20,21,22,23,25,54,69,10] qo4 [16]
end
section
open Go Go.Proofs AF HY LN
namespace RC
def qaD(x:Co)(l:List Un)(d:List Dc)(n:Nat):List Int:=(List.range l.length).map λk=>qcy x l d k n
theorem qgH(x:Co)(l:List Un)(d:List Dc)(n:Nat):(qaD x l d n).length=l.length:=by unfold qaD;simp
theorem qtE{x:Co}{l:List Un}{d:List Dc}{n k:Nat}(hk:k<l.length):(qaD x l d n).getD k 0=qcy x l d k n:=by
 unfold qaD;rw[gdqA,List.getElem?_map,List.getElem?_range hk];rfl
theorem qzm(x:Co)(l:List Un)(d:List Dc):qaD x l d 0=List.replicate l.length (-1):=by
 unfold qaD;refine List.ext_getElem (by simp) (λi h1 h2=> ?_);simp[qcy]
theorem qld{x:Co}{l:List Un}{d:List Dc}{n k:Nat}(hk:k<l.length)(he:kF x l (d.getD n default)=k):qaD x l d (n+1)=(qaD x l d n).set k (n:Int):=by
 unfold qaD;refine List.ext_getElem (by simp) (λi h1 h2=> ?_);rw[List.getElem_set];simp only[List.getElem_map,List.getElem_range]
 by_cases g:k=i
 ·subst g;rw[ipo rfl];unfold qcy;rw[ipo he]
 ·rw[ine g]
  conv=>lhs;unfold qcy
  rw[ine (by rw[he];omega)]
theorem qzz{x:Co}{l:List Un}{d:List Dc}{i:Nat}(hi:i<d.length):(plG x l d d.length).getD i 0=kF x l (d.getD i default):=by
 unfold plG;rw[List.take_length,gdqA,List.getElem?_map,zz hi,gdqA,zz hi];rfl
structure EsS where
 k:Nat
 vb:Nat
 O7:AObj
 O8:AObj
 O9:AObj
 O10:AObj
 O11:AObj
 O12:AObj
def rwK(x:Co)(l:List Un)(d:List Dc)(s k:Nat):List Rw:=if k<=l.length then rwL x l d s k else rwA x l d s
def nxT(x:Co)(l:List Un)(k:Nat):Nat:=if k<=l.length then ku l k else x.col.length
theorem qdM{v n:Nat}{L:List Wd}{ty:TypeId}{fz:Nat->Bool}{h:wh}{d:Nat}(hn:n=L.length):VLe (qe9 (some (zg v ty (jD L))) v 7 0 n (rei fz h (d+1))) (kn L):=by
 subst hn;unfold zg;split
 ·rename_i e
  have:L= []:=by
   cases L with
   |nil=>rfl
   |cons a r=>exact absurd e (by simp[jD,wdC])
  subst this;rw[slOf_emp,ipo rfl];exact qP
 ·rw[slOf_mem,ipo ⟨rfl,by rw[qhf];omega⟩];refine VLe.sl_eq rfl (λi hi=> ?_);simp only[Nat.zero_add];rw[qhe hi];rfl
theorem qzV{x:Co}{l:List Un}{d:List Dc}{s:Nat}: ∀ {j k:Nat},k<=j->(rwL x l d s k).length<=(rwL x l d s j).length:=by
 intro j
 induction j with
 |zero=>
  intro k h;obtain rfl:k=0:=by omega
  exact nlr _
 |succ j ih=>
  intro k h
  by_cases e:k=j+1
  ·subst e;exact nlr _
  ·refine Nat.le_trans (ih (show k<=j by omega)) ?_
   conv=>rhs;unfold rwL
   rw[lap];omega
theorem qme{x:Co}{l:List Un}{d:List Dc}{s k:Nat}(h:k<=l.length):(rwL x l d s k).length<=(rwA x l d s).length:=by
 refine Nat.le_trans (qzV h) ?_;unfold rwA;rw[lap];omega
theorem qt0{x:Co}{l:List Un}(ho:CoOk x)(hus:qcC x l=true){k:Nat}(hk:k<l.length){o:Dc}(hE:U3 x l o=0): ∀p∈qrF x l k o,PcF p:=by
 obtain⟨a1,a2,a3,a4,_⟩:=qcn hus hk;obtain⟨p1,p2,p3,p4,p5,p6⟩:=UO hE;intro p hp;unfold qrF at hp;split at hp
 ·have:=(qda p4).2.1
  exact UM ho this om p hp
 ·split at hp
  ·rename_i g;obtain⟨r1,r2,r3,r4⟩:=qq2 p6 g;exact qrE r2 p hp
  ·cases hp
theorem qt1{x:Co}{l:List Un}{d:List Dc}{s:Nat}(ho:CoOk x)(hus:qcC x l=true)(hs:s<x.sig.length)(hpl: ∀i,i<d.length->U3 x l (d.getD i default)=0){k:Nat}(hk:k<l.length): ∀r∈rwU x l d s k,PcF r.p:=by
 obtain⟨a1,a2,a3,a4,_⟩:=qcn hus hk;intro r hr;unfold rwU at hr;split at hr
 ·exact UM ho hs om _ (kZ.1 hr).1
 ·rename_i g
  have:=qgG x l d k d.length
  exact qt0 ho hus hk (hpl _ om) _ (kZ.1 hr).1
theorem qfA{x:Co}{l:List Un}{d:List Dc}{s:Nat}(ho:CoOk x)(hus:qcC x l=true)(hs:s<x.sig.length)(hpl: ∀i,i<d.length->U3 x l (d.getD i default)=0): ∀ {k:Nat},k<=l.length-> ∀r∈rwL x l d s k,PcF r.p:=by
 intro k
 induction k with
 |zero=>intro _ r hr;cases hr
 |succ k ih=>
  intro hk r hr;obtain⟨a1,a2,a3,a4,_⟩:=qcn hus (show k<l.length by omega);have a5:=qlT hus (show k<l.length by omega);unfold rwL at hr;rcases List.mem_append.1 hr with hr|hr
  ·exact ih om r hr
  ·rcases List.mem_append.1 hr with hr|hr
   ·exact UM ho hs om _ (kZ.1 hr).1
   ·exact qt1 ho hus hs hpl om r hr
theorem qFf{hh:wh}{j k v w:Nat}(n:Nat)(a:Int)(cs:wj)(hj:qt j hh=some (.mem v 3 (.int .i64 a::cs)))(hk:qt k hh=some (.emp w))(h0:0<n)(hl:n<=1000000000):
  ACalls Tryz.prog 68 [.osl j v 1 0 1,.int .i64 (n:Int)] hh (.osl k (w+1) 1 0 n) (qr k (qr j hh (.emp (v+1))) (.mem (w+1) 3 (qS (List.replicate n a)))):=by
 have hne:j≠k:=λe=>by subst e;rw[hj]at hk;cases hk
 have hs:qy hh j=true:=by unfold qy;rw[hj]
 have e1:qa5 [j] hh=qr j hh (.emp (v+1)):=by show qr j hh (.emp (qo (qt j hh)+1))=_;rw[hj];rfl
 have hk1:qt k (qr j hh (.emp (v+1)))=some (.emp w):=by rw[qN (λe=>hne e.symm)];exact hk
 refine ACalls.frzd [j] (by show (qy hh j&&true)=true;rw[hs];rfl) ?_;rw[e1];have h1:=qFg a n (qr j hh (.emp (v+1))) k (by unfold qy;rw[hk1]) h0 hl;rw[hk1]at h1;refine h1.le ⟨?_,qi,trivial⟩ (qi);have hc:=qR hj;have e: [j].contains j=true:=by simp
 simp only[go_sem,e,if_true,hc];rw[hj,slOf_mem,ipo ⟨rfl,by simp⟩];refine VLe.sl_eq rfl (λi hi=> ?_);obtain rfl:i=0:=by omega
 rfl
theorem qEB(x:Co)(l:List Un)(d:List Dc)(s:Int)(h:wh)(hz:qad x)(hu:qbK l)(hp:kt SG h)(hg:zT h frmN frmC)(hl0:l≠ [])(hd:d.length<=1000000)(ht: ∀o∈d,o.txt.length<=1000)(hN0:vaE x l=0->(rwA x l d s.toNat).length<=1000000000):
  ACalls Tryz.prog 17 [.agg (coC x),ze l,kq d,.int .i64 s] h (.tup [kn (esR x l d s),.int .i64 (esE x l d s)]) h:=by
 have c1:=λl'=>qhu x l (h++l') hz hu (hp.app l')
 have zu: ∀g l,valL g .len [ze l]= .int .i64 l.length:=λ_ _=>rfl
 have zv: ∀g l,okL g .len [ze l]=True:=λ_ _=>eqt trivial
 have zu1: ∀g l,valL g .len [strs l]= .int .i64 l.length:=λ_ _=>rfl
 have zv1: ∀g l,okL g .len [strs l]=True:=λ_ _=>eqt trivial
 have hE:esE x l d s=(if vaE x l≠0 then vaE x l else if s<0∨(x.sig.length:Int)<=s then 2 else if KD x l d≠0 then KD x l d else if 1024<(rwA x l d s.toNat).length then 4 else 0):=rfl;unfold esR
 by_cases g:vaE x l=0
 case neg=>
  have k1:(vaE x l=0)=False:=eqf g;rw[ipo g]at hE;rw[hE,ine g];unfold coC at c1;refine acO qah ?_;simp (disch:=omega) only[qe5,coC,go_sem]
  repeat' first|(refine cA (c1 _) flk ?_;simp (disch:=omega) only[k1,go_sem])|(apply qb;exact rvk;simp only[go_sem])
  exact VLe.tup ⟨qP,qi,trivial⟩
 rw[ine (by simpa using g)]at hE;have hN:=hN0 g;simp only[g]at c1;obtain⟨hca,hus,hcv⟩:=qhb g;have ho:=W0 hca
 by_cases g2:s<0
 ·have k2:(s<0)=True:=eqt g2;rw[ipo (.inl g2)]at hE;rw[hE,ine (by decide)];unfold coC at c1;refine acO qah ?_;simp (disch:=omega) only[qe5,coC,go_sem]
  repeat' first|(refine cA (c1 _) flk ?_;simp (disch:=omega) only[k2,go_sem])|(apply qb;exact rvk;simp only[go_sem])
  exact VLe.tup ⟨qP,qi,trivial⟩
 have k2:(s<0)=False:=eqf g2
 by_cases g3:(x.sig.length:Int)<=s
 ·have k3:((x.sig.length:Int)<=s)=True:=eqt g3;rw[ipo (.inr g3)]at hE;rw[hE,ine (by decide)];unfold coC at c1;refine acO qah ?_;simp (disch:=omega) only[qe5,coC,go_sem]
  repeat' first|(refine cA (c1 _) flk ?_;simp (disch:=omega) only[k2,k3,zu1,zv1,go_sem])|(apply qb;exact rvk;simp only[go_sem])
  exact VLe.tup ⟨qP,qi,trivial⟩
 have k3:((x.sig.length:Int)<=s)=False:=eqf g3;rw[ine (λe=>e.elim g2 g3)]at hE;have c2:=λl'=>qBk x l d (h++l') hz hu (hp.app l') hg.app hca hd ht
 unfold qve at c2
 by_cases g4:KD x l d=0
 case neg=>
  have k4:(KD x l d=0)=False:=eqf g4;simp only[ine g4]at c2;rw[ipo g4]at hE;rw[hE,ine g4];unfold coC at c1 c2;refine acO qah ?_;simp (disch:=omega) only[qe5,coC,go_sem]
  repeat' first|((first|refine cA (c1 _) ?_ ?_|refine cA (c2 _) ?_ ?_);exact flk;simp (disch:=omega) only[k2,k3,k4,zu1,zv1,go_sem])|(apply qb;exact rvk;simp only[go_sem])|with_reducible apply aiA|exact clz|fail
  exact VLe.tup ⟨qP,qi,trivial⟩
 rw[ine (by simpa using g4)]at hE;simp only[g4,if_true]at c2;rw[hE];unfold coC at c1 c2;refine acO qah ?_;simp (disch:=omega) only[qe5,coC,go_sem]
 repeat' first|((first|refine cA (c1 _) ?_ ?_|refine cA (c2 _) ?_ ?_);exact flk;simp (disch:=omega) only[k2,k3,zu1,zv1,zu,zv,go_sem])|with_reducible apply aiA|exact clz|fail
 have hlp:0<l.length:=List.length_pos_iff.2 hl0;refine qz (qFf (j:=h.length+2) (k:=h.length+13) (w:=0) l.length (-1) (List.drop 1 (zk [.int .i64 0] 1)) ?j1 ?j2 hlp hu.n) (by exact flk) ?_
 case j1=>simp only[go_sem]
 case j2=>simp only[go_sem]
 have zi: ∀g l,valL g .len [qv l]= .int .i64 l.length:=λ_ _=>rfl
 have zj: ∀g l,okL g .len [qv l]=True:=λ_ _=>eqt trivial
 have ePL:(plG x l d d.length).length=d.length:=by unfold plG;rw[List.length_map,List.take_length]
 simp (disch:=omega) only[zi,zj,ePL,go_sem];rw[<-qzm x l d];have hpl: ∀i,i<d.length->U3 x l (d.getD i default)=0:=by
  have:=g4
  unfold KD at this;split at this
  ·cases this
  ·intro i hi;exact jS.1 this i hi
 refine qn (T:=λi:Nat=>qO 154 [(1,ze l),(2,kq d),(3,.int .i64 s),(4,.op h.length 1 0),(13,.osl (h.length+13) 1 1 0 l.length),(55,.sl d.length λi=> [.int .i64 ((plG x l d d.length).getD i 0)]),(56,.int .i64 d.length),(57,.int .i64 i)])
  (H:=λi=>h++ [.mem 1 26 [.str x.sec,strs x.sig,qm x.tok,qu x.col],.emp 1,.emp 2,.emp 0,.emp 0,.emp 0,.emp 0,.emp 0,.emp 0,.emp 0,.emp 0,.emp 0,.emp 0,.mem 1 3 (qS (qaD x l d i)),.emp 0,.emp 0])
  (inv:=λi=>i<=d.length) (m:=λi=>d.length-i) 0 (nzl _) (Wk.temps ?_) ?_
 ·(simp only[go_sem,qf,qc,qa,qe];try (repeat' first|(with_reducible apply aiA)|(apply qg;omega)|(apply qd;rfl)|exact qi))
  have eI:qv (plG x l d d.length)= .sl d.length λi=> [.int .i64 ((plG x l d d.length).getD i 0)]:=by unfold qv;rw[ePL]
  rw[eI];exact qi
 rintro i i1 K hK;have hll:=qgH x l d i;have hlc:=jK (qaD x l d i)
 by_cases hi:i<d.length
 ·have q1:((i:Int)<d.length)=True:=wl;have q2:(0<=(i:Int))=True:=wl;have e0:=hpl i hi;obtain⟨_,_,_,_,p5,_⟩:=UO e0;obtain⟨k,hk⟩: ∃k:Nat,kF x l (d.getD i default)=k:=⟨(kF x l (d.getD i default)).toNat,om⟩
  have hkl:k<l.length:=by
   have:=(qte l (kz x (qX x (d.getD i default).sig).toNat (d.getD i default).tok)).2
   have h2:fnU l (kz x (qX x (d.getD i default).sig).toNat (d.getD i default).tok)=k:=hk;omega
  have q3:((k:Int)<l.length)=True:=wl;have q4:(0<=(k:Int))=True:=wl;have eA:=qzz (x:=x) (l:=l) hi;rw[hk]at eA;have hst:=qld (n:=i) hkl hk;simp (disch:=omega) only[q1,q2,q3,q4,eA,hlc,hll,go_sem]
  repeat' first|with_reducible apply aiA|exact clz|fail
  have eB:List.take k (qS (qaD x l d i))++ [AV.int .i64 (i:Int)]++List.drop (k+1) (qS (qaD x l d i))=qS (qaD x l d (i+1)):=by
   rw[hst];unfold qS;rw[List.set_eq_take_append_cons_drop,ipo (by rw[hll];exact hkl)];simp[List.map_append,List.map_take,List.map_drop]
  rw[eB];refine hK _ _ (i+1) hi om (Wk.temps ?_)
  (simp only[go_sem,qf,qc,qa,qe];try exact we)
 ·have q1:((i:Int)<d.length)=False:=wm;obtain rfl:i=d.length:=by omega
  simp (disch:=omega) only[q1,go_sem];refine⟨_,_,Wk.ownNil (j:=h.length+3) (i:=0) (k:=h.length+15) (v:=1) (ty:=45) (cs:= [.nl]) (ve:=0) (sz:=7) ?m1 rfl ?m2,?_⟩
  case m1=>simp only[go_sem]
  case m2=>simp only[go_sem]
  have s1:=λh=>qmB h l
  have eP:=qbZ l;simp (disch:=omega) only[List.set_cons_zero,go_sem];have hun:=hu.n;have bne5:(h.length+14 !=h.length+5)=true:=by simp
  have zc: ∀g l,valL g .len [qu l]= .int .i64 l.length:=λ_ _=>rfl
  have zd: ∀g l,okL g .len [qu l]=True:=λ_ _=>eqt trivial
  refine kg ?T ?H ?h1 ?h2
  case h1=>
   simp (disch:=omega) only[List.set_cons_zero,zc,zd,go_sem]
   repeat' first|(with_reducible apply aiA)|(refine qz (qEu l _ (h.length+14) (by simp only[go_sem]) hl0 hu.n) (by exact flk) ?_;simp (disch:=omega) only[List.set_cons_zero,eP,zc,zd,go_sem])
   all_goals first
    |omega
    |rfl
    |exact bne5
  case h2=>
  simp (disch:=omega) only[go_sem];obtain⟨S,hS⟩: ∃S:Nat,s=S:=⟨s.toNat,om⟩
  subst hS;rw[itn]at hN ⊢;have hSl:S<x.sig.length:=by omega
  have eTk:List.take (l.length*3) (U4 l)=U4 l:=ltl om;rw[eTk];obtain⟨MC,hMC⟩:=wg (U4 l++ [AV.int .i64 x.col.length,.int .i64 x.col.length,.nl])
  have hMl:MC.length=(l.length+1)*3:=by rw[hMC];simp[eP];omega
  have eM1: ∀k,k<l.length->List.take 3 (List.drop (k*3) MC)=unC (l.getD k default):=λk hk=>by
   rw[hMC,List.drop_append_of_le_length om,List.take_append_of_le_length (by rw[List.length_drop];omega)];exact qg9 hk
  have eM2:List.take 3 (List.drop (l.length*3) MC)= [AV.int .i64 x.col.length,.int .i64 x.col.length,.nl]:=by
   rw[hMC,List.drop_append,List.drop_eq_nil_of_le om,lna,eP,Nat.sub_self];rfl
  rw[<-hMC];obtain⟨O5,hO5⟩:=wg (AObj.mem 1 39 (AV.int .i64 x.col.length:: .int .i64 x.col.length:: .nl::List.drop 3 (zk [.int .i64 0,.int .i64 0,.nl] 1)))
  rw[<-hO5];obtain⟨LST,hLST⟩: ∃L,L=AObj.mem 1 3 (qS (qaD x l d d.length)):=⟨_,rfl⟩
  have hll:=qgH x l d d.length;have hlc:=jK (qaD x l d d.length);obtain⟨X0,hX0⟩:=wg (AObj.mem 1 26 [.str x.sec,strs x.sig,qm x.tok,qu x.col])
  have lX0: ∀n,lowO n X0:=by
   intro n;rw[hX0];intro c hc;simp at hc;rcases hc with rfl|rfl|rfl|rfl<;>rfl
  refine qn (T:=λi:EsS=>qO 154 [(1,ze l),(2,kq d),(3,.int .i64 (S:Int)),(4,.op h.length 1 0),(13,.osl (h.length+13) 1 1 0 l.length),(16,.op (h.length+3) 1 0),(17,.op (h.length+4) 1 0),(18,.int .i64 (nxT x l i.k:Int)),(78,.osl (h.length+14) 2 3 0 (l.length+1)),(79,.int .i64 ((l.length+1:Nat):Int)),(80,.int .i64 i.k)])
   (H:=λi=>h++ [.mem 1 26 [.str x.sec,strs x.sig,qm x.tok,qu x.col],.emp 1,.emp 2,.mem 1 45 [.osl (h.length+15) i.vb 7 0 (rwK x l d S i.k).length],.mem 1 135 [.fn (.func 69) [] [.op (h.length+3) 1 0]],O5,.emp 0,i.O7,i.O8,i.O9,i.O10,i.O11,i.O12,.mem 1 3 (qS (qaD x l d d.length)),.mem 2 39 MC,zg i.vb 133 (jD (bsW (rwK x l d S i.k)))])
   (inv:=λi=>i.k<=l.length+1∧ ∀O∈ [i.O7,i.O8,i.O9,i.O10,i.O11,i.O12],qy [O] 0=true∧ ∀n,lowO n O) (m:=λi=>l.length+1-i.k) ⟨0,0,.emp 0,.emp 0,.emp 0,.emp 0,.emp 0,.emp 0⟩ ⟨nzl _,λO hO=>by
    simp at hO;subst hO;exact⟨rfl,λ_=>trivial⟩⟩ (Wk.temps ?_) ?_
  ·(simp only[go_sem,qf,qc,qa,qe];try (repeat' first|(with_reducible apply aiA)|(apply qg;omega)|(apply qd;rfl)|exact qi))
   done
  rintro⟨k,vb,O7,O8,O9,O10,O11,O12⟩ ⟨i1,i2⟩ K hK;simp only at i1 i2 hK;obtain⟨s7,l7⟩:=i2 O7 (by simp);obtain⟨s8,l8⟩:=i2 O8 (by simp);obtain⟨s9,l9⟩:=i2 O9 (by simp);obtain⟨s10,l10⟩:=i2 O10 (by simp);obtain⟨s11,l11⟩:=i2 O11 (by simp);obtain⟨s12,l12⟩:=i2 O12 (by simp);have s7': ∀m,qy (O7::m) 0=true:=λ_=>s7
  have s8': ∀m,qy (O8::m) 0=true:=λ_=>s8
  by_cases hk:k<=l.length
  case neg=>
   have q1:((k:Int)<((l.length+1:Nat):Int))=False:=wm;have eR:rwK x l d S k=rwA x l d S:=by unfold rwK;rw[ine hk]
   rw[eR]
   by_cases g5:1024<(rwA x l d S).length
   ·have q5:((1024:Int)<(rwA x l d S).length)=True:=wl;simp only[ipo g5];simp (disch:=omega) only[q1,q5,go_sem]
    repeat' first|(apply qb;exact rvk;simp only[go_sem])|with_reducible apply aiA|exact clz|fail
    exact VLe.tup ⟨qP,qi,trivial⟩
   ·have q5:((1024:Int)<(rwA x l d S).length)=False:=wm;simp only[ine g5];simp (disch:=omega) only[q1,q5,go_sem]
    repeat' first|(apply qb;exact rvk;simp only[go_sem])|with_reducible apply aiA|exact clz|fail
    exact VLe.tup ⟨qdM (qaf _).symm,qi,trivial⟩
  have q1:((k:Int)<((l.length+1:Nat):Int))=True:=wl;have q2:(0<=(k:Int))=True:=wl;have q3:(k*3+3<=MC.length)=True:=wl;have eR:rwK x l d S k=rwL x l d S k:=by unfold rwK;rw[ipo hk]
  have eN:nxT x l k=ku l k:=by unfold nxT;rw[ipo hk]
  rw[eR,eN];obtain⟨f,t',RV,eM,a5,a6,lRV,hA,hB⟩: ∃(f t':Nat) (RV:AV),List.take 3 (List.drop (k*3) MC)= [.int .i64 (f:Int),.int .i64 (t':Int),RV]∧ku l k<=f∧f<=x.col.length∧(∀n,qT n RV=true)∧(k<l.length->f=frN l k∧t'=toN l k∧RV=ji (l.getD k default).rds)∧(k=l.length->f=x.col.length∧t'=x.col.length):=by
   by_cases hkl:k<l.length
   ·obtain⟨a1,a2,a3,a4,_⟩:=qcn hus hkl;have eM:=eM1 k hkl;unfold unC at eM;rw[a1,a2]at eM;exact⟨frN l k,toN l k,_,eM,qlT hus hkl,om,λ_=>rfl,λ_=>⟨rfl,rfl,rfl⟩,λe=>by omega⟩
   ·obtain rfl:k=l.length:=by omega
    exact⟨x.col.length,x.col.length,.nl,eM2,qfC hus (nlr _),nlr _,λ_=>rfl,λe=>by omega,λ_=>⟨rfl,rfl⟩⟩
  have c3:=λh=>qAd x (ku l k) f S h
  have hit:=itS x S (ku l k) f hz ho hSl a6 a5;have hpF:=UM ho hSl (f:=ku l k) (d:=f-ku l k) om;obtain⟨ps,hps⟩:=wg (spk x S (ku l k) (f-ku l k))
  have hxl:(spX x S (ku l k) (f-ku l k))=ps.map λp=> [.agg (pcC p)]:=by unfold spX;rw[hps]
  rw[hxl]at hit;rw[<-hps]at hpF;unfold coC at c3 hit;simp (disch:=omega) only[q1,q2,q3,eM,s7',s8',go_sem]
  repeat' first|(refine cA (c3 _) flk ?_;simp (disch:=omega) only[go_sem])
  obtain⟨L0,hL0⟩:=wg (rwL x l d S k)
  have hLF: ∀r∈L0,PcF r.p:=by rw[hL0];exact qfA ho hus hSl hpl hk
  have hLn:(L0++rwM ps (-1) (-1)).length<=1000000000:=by
   refine Nat.le_trans ?_ hN
   by_cases hkl:k<l.length
   ·obtain⟨b1,_⟩:=hA hkl;refine Nat.le_trans ?_ (qme (show k+1<=l.length by omega));rw[hL0,hps,b1]
    conv=>rhs;unfold rwL
    rw[lap,lap,lap];show _<=_+((rwM _ _ _).length+_);omega
   ·obtain⟨b1,_⟩:=hB om;have hke:k=l.length:=by omega
    rw[hL0,hps,b1,hke];exact nlr _
  rw[<-hL0];obtain⟨P7,hP7⟩:=wg (AObj.mem (qo (some O7)+1) 3 [.int .i64 (k:Int)])
  obtain⟨P8,hP8⟩:=wg (AObj.mem (qo (some O8)+1) 39 [.int .i64 (f:Int),.int .i64 (t':Int),RV])
  have hP7l:qy [P7] 0=true∧ ∀n,lowO n P7:=by
   rw[hP7];refine⟨rfl,λn c hc=> ?_⟩;rw[List.mem_singleton]at hc;subst hc;rfl
  have hP8l:qy [P8] 0=true∧ ∀n,lowO n P8:=by
   rw[hP8];refine⟨rfl,λn c hc=> ?_⟩;simp only[List.mem_cons,List.not_mem_nil,or_false]at hc;rcases hc with rfl|rfl|rfl
   ·rfl
   ·rfl
   ·exact lRV n
  have cP7: ∀m,cellsOf (P7::m) 0 (qo (some O7)+1)=some [.int .i64 (k:Int)]:=λm=>by rw[hP7];simp only[go_sem]
  rw[<-hP7,<-hP8];have lP: ∀L:List Rw,∀v n,lowO n (zg v 133 (jD (bsW L))):=λL v n=>jy (qb0 _ n)
  have hLow: ∀(L M:List Rw) (v w:Nat) O A,(∀n,lowO n A)->LowI (h++ [.mem 1 26 [.str x.sec,strs x.sig,qm x.tok,qu x.col],.emp 1,.emp 2,.mem 1 45 [.osl (h.length+15) w 7 0 M.length],.mem 1 135 [.fn (.func 69) [] [.op (h.length+3) 1 0]],O5,.emp 0,P7,P8,O,O10,O11,O12,.mem 1 3 (qS (qaD x l d d.length)),.mem 2 39 MC,zg w 133 (jD (bsW M))])
    (h++ [.mem 1 26 [.str x.sec,strs x.sig,qm x.tok,qu x.col],.emp 1,.emp 2,.mem 1 45 [.osl (h.length+15) v 7 0 L.length],.mem 1 135 [.fn (.func 69) [] [.op (h.length+3) 1 0]],O5,.emp 0,P7,P8,A,O10,O11,O12,.mem 1 3 (qS (qaD x l d d.length)),.mem 2 39 MC,zg v 133 (jD (bsW L))]):=λL M v w O A lA=>by
   refine⟨by simp,λo ho=> ?_⟩;rcases List.mem_append.1 ho with h1|h1
   ·exact .inl (List.mem_append_left _ h1)
   ·simp only[List.mem_cons,List.not_mem_nil,or_false]at h1;rcases h1 with rfl|rfl|rfl|rfl|rfl|rfl|rfl|rfl|rfl|rfl|rfl|rfl|rfl|rfl|rfl|rfl
    ·left;simp
    ·left;simp
    ·left;simp
    ·right;refine⟨λc hc=> ?_,λc hc=> ?_⟩<;>
     ·rw[List.mem_singleton]at hc;subst hc;simp[qT]
      try omega
    ·left;simp
    ·left;simp
    ·left;simp
    ·left;simp
    ·left;simp
    ·right;exact⟨lA _,lA _⟩
    ·left;simp
    ·left;simp
    ·left;simp
    ·left;simp
    ·left;simp
    ·right;exact⟨lP _ _ _,lP _ _ _⟩
  refine zE hit (λa ha=> ?_)
   (S:=λi hh=> ∃A,qy [A] 0=true∧(∀n,lowO n A)∧hh=h++ [.mem 1 26 [.str x.sec,strs x.sig,qm x.tok,qu x.col],.emp 1,.emp 2,.mem 1 45 [.osl (h.length+15) (vb+i) 7 0 (L0++rwM (ps.take i) (-1) (-1)).length],.mem 1 135 [.fn (.func 69) [] [.op (h.length+3) 1 0]],O5,.emp 0,P7,P8,A,O10,O11,O12,.mem 1 3 (qS (qaD x l d d.length)),.mem 2 39 MC,zg (vb+i) 133 (jD (bsW (L0++rwM (ps.take i) (-1) (-1))))]) (E:=λ_ _=>False) ?_ ?_ ?_ ?_ ?_ ?_ ?_
  ·obtain⟨c,_,rfl⟩:=List.mem_map.1 ha;rfl
  ·rintro i hh ⟨A,_,lA,rfl⟩;exact hLow _ _ _ _ _ _ lA
  ·intro s hh hf;exact hf.elim
  ·exact⟨O9,s9,l9,by simp[rwM]⟩
  ·simp[qT,qT.lowVs]
   repeat' apply aiA
   all_goals first|rfl|omega|exact lRV _
  ·rintro i hh tl LI TS hi ⟨A,sA,lA,rfl⟩ hlen K1 K2 hK1 hN1 hR1 hX1;have hi':i<ps.length:=by rw[List.length_map]at hi;exact hi
   rw[List.getElem_map];have sA': ∀m,qy (A::m) 0=true:=λ_=>sA
   have hS:L0++rwM (ps.take (i+1)) (-1) (-1)=(L0++rwM (ps.take i) (-1) (-1))++ [⟨ps.getD i default,-1,-1⟩]:=by
    unfold rwM;rw[List.take_add_one,zz hi',List.map_append,gdqA,zz hi',List.append_assoc];rfl
   have eG:ps[i]=ps.getD i default:=by rw[gdqA,zz hi'];rfl
   rw[eG];have hpm:ps.getD i default∈ps:=jf hi';obtain⟨p,hp'⟩:=wg (ps.getD i default)
   rw[<-hp']at hS hpm ⊢;obtain⟨M,hM⟩:=wg (L0++rwM (ps.take i) (-1) (-1))
   have hMF: ∀r∈M,PcF r.p:=λr hr=>by
    rw[hM]at hr;rcases List.mem_append.1 hr with hr|hr
    ·exact hLF r hr
    ·exact hpF _ (List.mem_of_mem_take (kZ.1 hr).1)
   have hMn:M.length<=1000000000:=by
    rw[hM,lap,jM,List.length_take];rw[lap,jM]at hLn;omega
   rw[<-hM]at hS ⊢;simp only[kK,List.append_assoc,lca,lna];simp (disch:=omega) only[sA',pcC,tkC,go_sem];refine hK1 _ _ (h++ [.mem 1 26 [.str x.sec,strs x.sig,qm x.tok,qu x.col],.emp 1,.emp 2,.mem 1 45 [.osl (h.length+15) (vb+i) 7 0 M.length],.mem 1 135 [.fn (.func 69) [] [.op (h.length+3) 1 0]],O5,.emp 0,P7,P8,(.mem (qo (some A)+1) 131 (pcC p)),O10,O11,O12,.mem 1 3 (qS (qaD x l d d.length)),.mem 2 39 MC,zg (vb+i) 133 (jD (bsW M))]) ?_ ?_ ?_
   ·simp[pcC,tkC]
   ·simp
   ·simp only[List.append_assoc,lca,lna];simp (disch:=omega) only[pcC,tkC,go_sem]
    repeat' first|with_reducible apply aiA|exact clz|fail
    refine ky (qvp (a:=h.length+3) (b:=h.length+15) (c:=h.length) (va:=1) (vb:=vb+i) (Z:= .mem 1 26 [.str x.sec,strs x.sig,qm x.tok,qu x.col]) ⟨by simp,by simp,by simp,om,om,om⟩ M p (-1) (-1) (by simp only[go_sem]) (by simp only[go_sem]) (by simp only[go_sem]) (by rw[<-hX0];exact lX0) (hpF p hpm) hMn hMF) ?_;simp (disch:=omega) only[go_sem];refine hN1 _ _ (h++ [.mem 1 26 [.str x.sec,strs x.sig,qm x.tok,qu x.col],.emp 1,.emp 2,.mem 1 45 [.osl (h.length+15) (vb+(i+1)) 7 0 (M++ [(⟨p,-1,-1⟩:Rw)]).length],.mem 1 135 [.fn (.func 69) [] [.op (h.length+3) 1 0]],O5,.emp 0,P7,P8,(.mem (qo (some A)+1) 131 (pcC p)),O10,O11,O12,.mem 1 3 (qS (qaD x l d d.length)),.mem 2 39 MC,zg (vb+(i+1)) 133 (jD (bsW (M++ [(⟨p,-1,-1⟩:Rw)])))]) ?_ ?_ ⟨_,rfl,?_,by rw[hS]⟩
    ·simp[pcC,tkC,Nat.add_assoc]
    ·simp
    ·intro n c hc;simp[pcC,tkC]at hc;rcases hc with rfl|rfl|rfl|rfl|rfl|rfl|rfl<;>rfl
  ·rintro hh ⟨A,sA,lA,rfl⟩;rw[List.length_map,List.take_length];obtain⟨L1,hL1⟩:=wg (L0++rwM ps (-1) (-1))
   rw[<-hL1]
   by_cases hkl:k<l.length
   case neg=>
    have hke:k=l.length:=by omega
    obtain⟨b1,b2⟩:=hB hke;have q4:((k:Int)=l.length)=True:=wl;rw[hP7,hP8];simp (disch:=omega) only[q4,zu,zv,go_sem]
    repeat' first|with_reducible apply aiA|exact clz|fail
    rw[<-hP7,<-hP8];have e1:rwK x l d S (k+1)=L1:=by
     unfold rwK;rw[ine om,hL1,hL0,hps,b1,hke];rfl
    have e2:nxT x l (k+1)=t':=by unfold nxT;rw[ine om,b2]
    refine hK _ _ ⟨k+1,vb+ps.length,P7,P8,A,O10,O11,O12⟩ ⟨by simp only;omega,λO hO=> ?_⟩ (by simp only;omega) ?_
    ·simp only[List.mem_cons,List.not_mem_nil,or_false]at hO;rcases hO with rfl|rfl|rfl|rfl|rfl|rfl
     ·exact hP7l
     ·exact hP8l
     ·exact⟨sA,lA⟩
     ·exact⟨s10,l10⟩
     ·exact⟨s11,l11⟩
     ·exact⟨s12,l12⟩
    ·simp only[e1,e2];refine Wk.temps ?_
     (simp only[go_sem,qf,qc,qa,qe];try exact we)
   obtain⟨b1,b2,b3⟩:=hA hkl;have q4:((k:Int)=l.length)=False:=wm;have q5:((k:Int)<l.length)=True:=wl;have q6:(k<l.length)=True:=eqt hkl;have eLs:(qS (qaD x l d d.length))[k]? =some (.int .i64 (qcy x l d k d.length)):=by
    unfold qS
    have:=qtE (x:=x) (d:=d) (n:=d.length) hkl
    rw[List.getElem?_map,zz (by rw[hll];exact hkl)];rw[gdqA,zz (by rw[hll];exact hkl)]at this;rw[<-this];rfl
   obtain⟨D,hD⟩:=wg (qcy x l d k d.length)
   rw[<-hD]at eLs;rw[hP7,hP8]
   by_cases g6:D<0
   ·have q7:(D<0)=True:=eqt g6;have c4:=λh=>qAd x f t' S h
    unfold coC at c4;simp (disch:=omega) only[q2,q4,q5,q6,q7,hlc,hll,eLs,zu,zv,go_sem]
    repeat' first|(refine cA (c4 _) flk ?_;simp (disch:=omega) only[go_sem])|with_reducible apply aiA|exact clz|fail
    rw[<-hP7,<-hP8];obtain⟨A0,hA0⟩:=wg A
    rw[<-hA0];obtain⟨vc,hvc⟩:=wg (vb+ps.length)
    rw[<-hvc];obtain⟨_,_,a3,a4,_⟩:=qcn hus hkl;have hit2:=itS x S f t' hz ho hSl om om;have hpF2:=UM ho hSl (f:=f) (d:=t'-f) om;obtain⟨qs,hqs⟩:=wg (spk x S f (t'-f))
    have hxl2:(spX x S f (t'-f))=qs.map λp=> [.agg (pcC p)]:=by unfold spX;rw[hqs]
    rw[hxl2]at hit2;rw[<-hqs]at hpF2;unfold coC at hit2;have eR1:rwK x l d S (k+1)=L1++rwM qs (k:Int) (-1):=by
     unfold rwK;rw[ipo om];show rwL x l d S k++(rwC x S (ku l k) (frN l k)++rwU x l d S k)=_;unfold rwU;rw[ipo (by rw[<-hD];exact g6),hL1,hL0,hps,hqs,b1,b2,List.append_assoc];rfl
    have hLF2: ∀r∈L1,PcF r.p:=λr hr=>by
     rw[hL1]at hr;rcases List.mem_append.1 hr with hr|hr
     ·exact hLF r hr
     ·exact hpF _ (kZ.1 hr).1
    have hLn2:(L1++rwM qs (k:Int) (-1)).length<=1000000000:=by
     rw[<-eR1];unfold rwK;rw[ipo om];exact Nat.le_trans (qme (show k+1<=l.length by omega)) hN
    have hLow2: ∀(L M:List Rw) (v w:Nat) O A,(∀n,lowO n A)->LowI (h++ [.mem 1 26 [.str x.sec,strs x.sig,qm x.tok,qu x.col],.emp 1,.emp 2,.mem 1 45 [.osl (h.length+15) w 7 0 M.length],.mem 1 135 [.fn (.func 69) [] [.op (h.length+3) 1 0]],O5,.emp 0,P7,P8,A0,O,O11,O12,.mem 1 3 (qS (qaD x l d d.length)),.mem 2 39 MC,zg w 133 (jD (bsW M))])
      (h++ [.mem 1 26 [.str x.sec,strs x.sig,qm x.tok,qu x.col],.emp 1,.emp 2,.mem 1 45 [.osl (h.length+15) v 7 0 L.length],.mem 1 135 [.fn (.func 69) [] [.op (h.length+3) 1 0]],O5,.emp 0,P7,P8,A0,A,O11,O12,.mem 1 3 (qS (qaD x l d d.length)),.mem 2 39 MC,zg v 133 (jD (bsW L))]):=λL M v w O A lA=>by
     refine⟨by simp,λo ho=> ?_⟩;rcases List.mem_append.1 ho with h1|h1
     ·exact .inl (List.mem_append_left _ h1)
     ·simp only[List.mem_cons,List.not_mem_nil,or_false]at h1;rcases h1 with rfl|rfl|rfl|rfl|rfl|rfl|rfl|rfl|rfl|rfl|rfl|rfl|rfl|rfl|rfl|rfl
      ·left;simp
      ·left;simp
      ·left;simp
      ·right;refine⟨λc hc=> ?_,λc hc=> ?_⟩<;>
       ·rw[List.mem_singleton]at hc;subst hc;simp[qT]
        try omega
      ·left;simp
      ·left;simp
      ·left;simp
      ·left;simp
      ·left;simp
      ·left;simp
      ·right;exact⟨lA _,lA _⟩
      ·left;simp
      ·left;simp
      ·left;simp
      ·left;simp
      ·right;exact⟨lP _ _ _,lP _ _ _⟩
    refine zE hit2 (λa ha=> ?_)
     (S:=λi hh=> ∃A,qy [A] 0=true∧(∀n,lowO n A)∧hh=h++ [.mem 1 26 [.str x.sec,strs x.sig,qm x.tok,qu x.col],.emp 1,.emp 2,.mem 1 45 [.osl (h.length+15) (vc+i) 7 0 (L1++rwM (qs.take i) (k:Int) (-1)).length],.mem 1 135 [.fn (.func 69) [] [.op (h.length+3) 1 0]],O5,.emp 0,P7,P8,A0,A,O11,O12,.mem 1 3 (qS (qaD x l d d.length)),.mem 2 39 MC,zg (vc+i) 133 (jD (bsW (L1++rwM (qs.take i) (k:Int) (-1))))]) (E:=λ_ _=>False) ?_ ?_ ?_ ?_ ?_ ?_ ?_
    ·obtain⟨c,_,rfl⟩:=List.mem_map.1 ha;rfl
    ·rintro i hh ⟨A,_,lA,rfl⟩;exact hLow2 _ _ _ _ _ _ lA
    ·intro s hh hf;exact hf.elim
    ·exact⟨O10,s10,l10,by simp[rwM]⟩
    ·simp[qT,qT.lowVs]
     repeat' apply aiA
     all_goals first|rfl|omega|exact lRV _
    ·rintro i hh tl LI TS hi ⟨A,sA,lA,rfl⟩ hlen K1 K2 hK1 hN1 hR1 hX1;have hi':i<qs.length:=by rw[List.length_map]at hi;exact hi
     rw[List.getElem_map];have sA': ∀m,qy (A::m) 0=true:=λ_=>sA
     have hS:L1++rwM (qs.take (i+1)) (k:Int) (-1)=(L1++rwM (qs.take i) (k:Int) (-1))++ [⟨qs.getD i default,(k:Int),-1⟩]:=by
      unfold rwM;rw[List.take_add_one,zz hi',List.map_append,gdqA,zz hi',List.append_assoc];rfl
     have eG:qs[i]=qs.getD i default:=by rw[gdqA,zz hi'];rfl
     rw[eG];have hpm:qs.getD i default∈qs:=jf hi';obtain⟨p,hp'⟩:=wg (qs.getD i default)
     rw[<-hp']at hS hpm ⊢;obtain⟨M,hM⟩:=wg (L1++rwM (qs.take i) (k:Int) (-1))
     have hMF: ∀r∈M,PcF r.p:=λr hr=>by
      rw[hM]at hr;rcases List.mem_append.1 hr with hr|hr
      ·exact hLF2 r hr
      ·exact hpF2 _ (List.mem_of_mem_take (kZ.1 hr).1)
     have hMn:M.length<=1000000000:=by
      rw[hM,lap,jM,List.length_take];rw[lap,jM]at hLn2;omega
     rw[<-hM]at hS ⊢;simp only[kK,List.append_assoc,lca,lna];simp (disch:=omega) only[sA',pcC,tkC,go_sem];refine hK1 _ _ (h++ [.mem 1 26 [.str x.sec,strs x.sig,qm x.tok,qu x.col],.emp 1,.emp 2,.mem 1 45 [.osl (h.length+15) (vc+i) 7 0 M.length],.mem 1 135 [.fn (.func 69) [] [.op (h.length+3) 1 0]],O5,.emp 0,P7,P8,A0,(.mem (qo (some A)+1) 131 (pcC p)),O11,O12,.mem 1 3 (qS (qaD x l d d.length)),.mem 2 39 MC,zg (vc+i) 133 (jD (bsW M))]) ?_ ?_ ?_
     ·simp[pcC,tkC]
     ·simp
     ·simp only[List.append_assoc,lca,lna];simp (disch:=omega) only[pcC,tkC,cP7,go_sem]
      repeat' first|with_reducible apply aiA|exact clz|fail
      refine ky (qvp (a:=h.length+3) (b:=h.length+15) (c:=h.length) (va:=1) (vb:=vc+i) (Z:= .mem 1 26 [.str x.sec,strs x.sig,qm x.tok,qu x.col]) ⟨by simp,by simp,by simp,om,om,om⟩ M p (k:Int) (-1) (by simp only[go_sem]) (by simp only[go_sem]) (by simp only[go_sem]) (by rw[<-hX0];exact lX0) (hpF2 p hpm) hMn hMF) ?_;simp (disch:=omega) only[go_sem];refine hN1 _ _ (h++ [.mem 1 26 [.str x.sec,strs x.sig,qm x.tok,qu x.col],.emp 1,.emp 2,.mem 1 45 [.osl (h.length+15) (vc+(i+1)) 7 0 (M++ [(⟨p,(k:Int),-1⟩:Rw)]).length],.mem 1 135 [.fn (.func 69) [] [.op (h.length+3) 1 0]],O5,.emp 0,P7,P8,A0,(.mem (qo (some A)+1) 131 (pcC p)),O11,O12,.mem 1 3 (qS (qaD x l d d.length)),.mem 2 39 MC,zg (vc+(i+1)) 133 (jD (bsW (M++ [(⟨p,(k:Int),-1⟩:Rw)])))]) ?_ ?_ ⟨_,rfl,?_,by rw[hS]⟩
      ·simp[pcC,tkC,Nat.add_assoc]
      ·simp
      ·intro n c hc;simp[pcC,tkC]at hc;rcases hc with rfl|rfl|rfl|rfl|rfl|rfl|rfl<;>rfl
    ·rintro hh ⟨B,sB,lB,rfl⟩;rw[List.length_map,List.take_length];simp (disch:=omega) only[go_sem];have e2:nxT x l (k+1)=t':=by
      unfold nxT;rw[ipo om,b2];unfold ku;rw[ine om,Nat.add_sub_cancel]
     refine hK _ _ ⟨k+1,vc+qs.length,P7,P8,A0,B,O11,O12⟩ ⟨by simp only;omega,λO hO=> ?_⟩ (by simp only;omega) ?_
     ·simp only[List.mem_cons,List.not_mem_nil,or_false]at hO;rcases hO with rfl|rfl|rfl|rfl|rfl|rfl
      ·exact hP7l
      ·exact hP8l
      ·rw[hA0];exact⟨sA,lA⟩
      ·exact⟨sB,lB⟩
      ·exact⟨s11,l11⟩
      ·exact⟨s12,l12⟩
     ·simp only[eR1,e2];refine Wk.temps ?_
      (simp only[go_sem,qf,qc,qa,qe];try exact we)
    ·intro e hh hf;exact hf.elim
   ·have q7:(D<0)=False:=eqf g6;obtain⟨j,hj⟩: ∃j:Nat,D=j:=⟨D.toNat,om⟩
    have hjd:j<d.length:=by
     have:=(qgG x l d k d.length).2
     omega
    rw[hj]at eLs hD q7;have q8:(0<=(j:Int))=True:=wl;have q9:((j:Int)<d.length)=True:=wl;have s11': ∀m,qy (O11::m) 0=true:=λ_=>s11
    have e0:=hpl j hjd;have eU:kF x l (d.getD j default)=k:=qtD (n:=d.length) hD.symm;obtain⟨o,ho'⟩:=wg (d.getD j default)
    have eo:=ho'.symm;rw[eo]at e0 eU;have hot:o.txt.length<=1000:=ht o (by rw[ho'];exact jf hjd);obtain⟨p1,p2,p3,p4,p5,p6⟩:=UO e0;have c5:=λh=>qEY h
    have zp: ∀g l,valL g .len [qd6 l]= .int .i64 l.length:=λ_ _=>rfl
    have zq: ∀g l,okL g .len [qd6 l]=True:=λ_ _=>eqt trivial
    have k7:(0<=o.kind)=True:=wl;have k8:(o.kind<4)=True:=wl;obtain⟨_,_,a3,a4,_⟩:=qcn hus hkl;obtain⟨fid,qs,eIx,c6,eqs,hpF2⟩: ∃(fid:Nat) (qs:List Pc),[AV.nilfn,AV.fn (.func 147) [] [],AV.fn (.func 149) [] [],AV.fn (.func 151) [] []][Int.toNat o.kind]?.getD AV.undef= .fn (.func fid) [] []∧(∀l',ACalls Tryz.prog fid [.agg [.str x.sec,strs x.sig,qm x.tok,qu x.col],.agg [.int .i64 (f:Int),.int .i64 (t':Int),RV],.agg [.int .i64 o.kind,.str o.sig,.int .i64 o.tok,.str o.txt]] (h++l') (qd6 qs) (h++l'))∧qs=qrF x l k o∧ ∀p∈qs,PcF p:=by
     obtain⟨a1,a2,_⟩:=qcn hus hkl;rcases (show o.kind=1∨o.kind=2∨o.kind=3 by omega)with g7|g7|g7
     ·obtain⟨S1,hS1⟩: ∃S1:Nat,qX x o.sig=S1:=⟨(qX x o.sig).toNat,by have:=(qda p4).1;omega⟩
      have hS1l:S1<x.sig.length:=by have:=(qda p4).2.1;omega
      refine⟨147,spk x S1 f (t'-f),by rw[g7];rfl,λl'=> ?_,?_,UM ho hS1l om⟩
      ·have c6:=qEV x (l.getD k default) o S1 f t' (h++l') hz ho hS1 hS1l (by rw[a1,b1]) (by rw[a2,b2]) om om;unfold coC unC dcC at c6;rw[a1,a2,<-b1,<-b2,<-b3]at c6;exact c6
      ·unfold qrF;rw[ipo g7,hS1,itn,b1,b2]
     ·obtain⟨r1,r2,r3,r4⟩:=qq2 p6 g7;refine⟨149,cjP (qbX o.txt) (f:Int),by rw[g7];rfl,λl'=> ?_,?_,qrE r2⟩
      ·have c6:=qEW x (l.getD k default) o (h++l') hot r4 r1 r2 hg.app;unfold coC unC dcC at c6;rw[a1,a2,<-b1,<-b2,<-b3]at c6;exact c6
      ·unfold qrF cjP;rw[ine (by rw[g7];decide),ipo g7,a1,b1]
     ·refine⟨151,[],by rw[g7];rfl,λl'=> ?_,?_,λp hp=>by cases hp⟩
      ·have c6:=qEX x (l.getD k default) o (h++l');unfold coC unC dcC at c6;rw[a1,a2,<-b1,<-b2,<-b3]at c6;exact c6
      ·unfold qrF;rw[ine (by rw[g7];decide),ine (by rw[g7];decide)]
    simp (disch:=omega) only[q2,q4,q5,q6,q7,q8,q9,hlc,hll,eLs,zu,zv,kq,dcC,eo,s11',go_sem]
    repeat' first|with_reducible apply aiA|exact clz|fail
    refine kg ?Ta ?Ha ?h1 ?h2
    case h1=>
     simp (disch:=omega) only[go_sem]
     repeat' first|(refine cU (λ_=>c5 _) flk ?_;simp (disch:=omega) only[k7,go_sem])|with_reducible apply aiA
     all_goals first
      |omega
      |rfl
      |skip
     rw[eIx];refine qjU (c6 _) (by exact flk) ?_;simp (disch:=omega) only[zp,zq,go_sem]
     repeat' first|with_reducible apply aiA
     all_goals first
      |omega
      |rfl
      |skip
    case h2=>
    rw[<-hP7,<-hP8];obtain⟨P11,hP11⟩:=wg (AObj.mem (qo (some O11)+1) 65 [.int .i64 o.kind,.str o.sig,.int .i64 o.tok,.str o.txt])
    rw[<-hP11];have eR1:rwK x l d S (k+1)=L1++rwM qs (k:Int) (j:Int):=by
     unfold rwK;rw[ipo om];show rwL x l d S k++(rwC x S (ku l k) (frN l k)++rwU x l d S k)=_;unfold rwU;rw[<-hD,ine om,itn,eo,hL1,hL0,hps,eqs,b1,List.append_assoc];rfl
    have hLF2: ∀r∈L1,PcF r.p:=λr hr=>by
     rw[hL1]at hr;rcases List.mem_append.1 hr with hr|hr
     ·exact hLF r hr
     ·exact hpF _ (kZ.1 hr).1
    have hLn2:(L1++rwM qs (k:Int) (j:Int)).length<=1000000000:=by
     rw[<-eR1];unfold rwK;rw[ipo om];exact Nat.le_trans (qme (show k+1<=l.length by omega)) hN
    simp (disch:=omega) only[go_sem];have hqn:qs.length<=1000000000:=by rw[lap,jM]at hLn2;omega
    refine qn (T:=λi:Nat×AObj=>qO 154 [(1,ze l),(2,kq d),(3,.int .i64 (S:Int)),(4,.op h.length 1 0),(13,.osl (h.length+13) 1 1 0 l.length),(16,.op (h.length+3) 1 0),(17,.op (h.length+4) 1 0),(18,.int .i64 (t':Int)),(19,.op (h.length+7) (qo (some O7)+1) 0),(78,.osl (h.length+14) 2 3 0 (l.length+1)),(79,.int .i64 ((l.length+1:Nat):Int)),(80,.int .i64 (k:Int)),(111,qd6 qs),(112,.int .i64 qs.length),(113,.int .i64 i.1)])
     (H:=λi=>h++ [.mem 1 26 [.str x.sec,strs x.sig,qm x.tok,qu x.col],.emp 1,.emp 2,.mem 1 45 [.osl (h.length+15) (vb+ps.length+i.1) 7 0 (L1++rwM (qs.take i.1) (k:Int) (j:Int)).length],.mem 1 135 [.fn (.func 69) [] [.op (h.length+3) 1 0]],O5,.emp 0,P7,P8,A,O10,P11,i.2,.mem 1 3 (qS (qaD x l d d.length)),.mem 2 39 MC,zg (vb+ps.length+i.1) 133 (jD (bsW (L1++rwM (qs.take i.1) (k:Int) (j:Int))))])
     (inv:=λi=>i.1<=qs.length∧qy [i.2] 0=true∧ ∀n,lowO n i.2) (m:=λi=>qs.length-i.1) (0,O12) ⟨nzl _,s12,l12⟩ ?_ ?_
    ·simp only[List.take_zero,rwM,List.map_nil,lan,Nat.add_zero];refine Wk.temps ?_
     (simp only[kq,dcC,go_sem,qf,qc,qa,qe];try exact we)
    rintro⟨i,B⟩ ⟨j1,j2,j3⟩ K3 hK3;simp only at j1 j2 j3 hK3;have j2': ∀m,qy (B::m) 0=true:=λ_=>j2
    by_cases hi:i<qs.length
    ·have w1:((i:Int)<qs.length)=True:=wl;have w2:(0<=(i:Int))=True:=wl;have hS:L1++rwM (qs.take (i+1)) (k:Int) (j:Int)=(L1++rwM (qs.take i) (k:Int) (j:Int))++ [⟨qs.getD i default,(k:Int),(j:Int)⟩]:=by
      unfold rwM;rw[List.take_add_one,zz hi,List.map_append,gdqA,zz hi,List.append_assoc];rfl
     have hpm:qs.getD i default∈qs:=jf hi;obtain⟨p,hp'⟩:=wg (qs.getD i default)
     have ep:=hp'.symm;rw[<-hp']at hS hpm;obtain⟨M,hM⟩:=wg (L1++rwM (qs.take i) (k:Int) (j:Int))
     have hMF: ∀r∈M,PcF r.p:=λr hr=>by
      rw[hM]at hr;rcases List.mem_append.1 hr with hr|hr
      ·exact hLF2 r hr
      ·exact hpF2 _ (List.mem_of_mem_take (kZ.1 hr).1)
     have hMn:M.length<=1000000000:=by
      rw[hM,lap,jM,List.length_take];rw[lap,jM]at hLn2;omega
     rw[<-hM]at hS ⊢;simp (disch:=omega) only[qd6,pcC,tkC,w1,w2,ep,j2',cP7,q2,q5,q6,eLs,hlc,hll,go_sem]
     repeat' first|with_reducible apply aiA|exact clz|fail
     refine ky (qvp (a:=h.length+3) (b:=h.length+15) (c:=h.length) (va:=1) (vb:=vb+ps.length+i) (Z:= .mem 1 26 [.str x.sec,strs x.sig,qm x.tok,qu x.col]) ⟨by simp,by simp,by simp,om,om,om⟩ M p (k:Int) (j:Int) (by simp only[go_sem]) (by simp only[go_sem]) (by simp only[go_sem]) (by rw[<-hX0];exact lX0) (hpF2 p hpm) hMn hMF) ?_;simp (disch:=omega) only[go_sem];refine hK3 _ _ (i+1,.mem (qo (some B)+1) 131 (pcC p)) ⟨hi,rfl,λn c hc=> ?_⟩ (by simp only;omega) ?_
     ·simp[pcC,tkC]at hc;rcases hc with rfl|rfl|rfl|rfl|rfl|rfl|rfl<;>rfl
     ·simp only[hS,pcC,tkC,lap,lco,lnl,lca,lna,Nat.zero_add];refine Wk.temps ?_
      (simp only[kq,dcC,go_sem,qf,qc,qa,qe];try exact we)
    ·have w1:((i:Int)<qs.length)=False:=wm;obtain rfl:i=qs.length:=by omega
     rw[List.take_length];simp (disch:=omega) only[w1,go_sem];have e2:nxT x l (k+1)=t':=by
      unfold nxT;rw[ipo om,b2];unfold ku;rw[ine om,Nat.add_sub_cancel]
     refine hK _ _ ⟨k+1,vb+ps.length+qs.length,P7,P8,A,O10,P11,B⟩ ⟨by simp only;omega,λO hO=> ?_⟩ (by simp only;omega) ?_
     ·simp only[List.mem_cons,List.not_mem_nil,or_false]at hO;rcases hO with rfl|rfl|rfl|rfl|rfl|rfl
      ·exact hP7l
      ·exact hP8l
      ·exact⟨sA,lA⟩
      ·exact⟨s10,l10⟩
      ·rw[hP11];refine⟨rfl,λn c hc=> ?_⟩;simp at hc;rcases hc with rfl|rfl|rfl|rfl<;>rfl
      ·exact⟨j2,j3⟩
     ·simp only[eR1,e2];refine Wk.temps ?_
      (simp only[go_sem,qf,qc,qa,qe];try exact we)
  ·intro e hh hf;exact hf.elim
end RC
end
