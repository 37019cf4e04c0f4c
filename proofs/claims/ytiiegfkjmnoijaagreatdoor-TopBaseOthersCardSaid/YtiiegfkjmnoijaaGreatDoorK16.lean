import Derived.Test.YtiiegfkjmnoijaaGreatDoorK10
import Derived.Test.YtiiegfkjmnoijaaGreatDoorK15
import Derived.Test.YtiiegfkjmnoijaaGreatDoorK3
import Derived.Test.YtiiegfkjmnoijaaGreatDoorK5
import Derived.Test.YtiiegfkjmnoijaaGreatDoorK8
import Derived.Test.YtiiegfkjmnoijaaGreatDoorProg
import Derived.Test.YtiiegfkjmnoijaaGreatDoorK11
import Derived.Test.YtiiegfkjmnoijaaGreatDoorK12
set_option linter.all false
set_option maxHeartbeats 256000000
set_option maxRecDepth 100000
section
open Go Go.Proofs AF HY LN
namespace RC
theorem Rb(s:Str)(h:w6)(hs:s.length<=1000000000):ACalls Tryz.prog 142 [.str s] h (.bool (YW s)) h:=by
 unfold YW;have c1:=λh=>t53 s h hs
 by_cases g:1<=s.length
 ·rw[Y7 s g];have k0:((0:Int)<s.length)=True:=xv;have k2:((s.length:Int)-1).toNat=s.length-1:=by omega
  have k3:(0<=(s.length:Int)-1)=True:=xv;have k4:((s.length:Int)-1<=s.length)=True:=xv;have k5:((s.length:Int)-1<s.length)=True:=xv;obtain⟨b,hb⟩:=wD ((s[s.length-1]?).getD 0)
  have eb:=hb.symm;rw[eb];have c2:=λh=>t53 (s.take (s.length-1)) h (by simp;omega)
  by_cases g2:b.toNat=42
  ·have k6:((b.toNat:Int)=42)=True:=xv;rw[ipo (by simpa using g2)]
   by_cases g3:s.length<=16
   ·have k7:((s.length:Int)<=16)=True:=xv;rw[dqt g3];refine acO oN ?_;simp (disch:=omega) only[u6,k0,k2,k3,k4,k5,eb,k6,k7,go_sem]
    repeat' first|(refine cG (λe=>c2 _) flk ?_;simp (disch:=omega) only[go_sem])|exact wm|with_reducible apply aiA|exact clz|fail
   ·have k7:((s.length:Int)<=16)=False:=xD;rw[dqf g3];refine acO oN ?_;simp (disch:=omega) only[u6,k0,k2,k3,k4,k5,eb,k6,k7,go_sem]
    repeat' first|(refine qj ( .bool false) ?_;simp (disch:=omega) only[go_sem])|exact wm|fail
  ·have k6:((b.toNat:Int)=42)=False:=xD;rw[ine (by simpa using g2)];refine acO oN ?_;simp (disch:=omega) only[u6,k0,k2,k3,k4,k5,eb,k6,go_sem]
   repeat' first|(refine cA (c1 _) flk ?_;simp (disch:=omega) only[go_sem])|exact wm|fail
 ·have e:s= []:=List.eq_nil_of_length_eq_zero om;subst e;rw[ine (by decide)];refine acO oN ?_;simp (disch:=omega) only[u6,go_sem]
  repeat' first|((first|refine cA (c1 _) ?_ ?_|refine cG (λe=>c1 _) ?_ ?_);exact flk;simp (disch:=omega) only[go_sem])|exact wm|(with_reducible first|intro _|apply aiA)|exact clz|fail
theorem hdR(x:Co)(h:w6)(hz:yx x)(hp:kt SG h):ACalls Tryz.prog 87 [.str x.sec,strs x.sig,qm x.tok] h (.int .i64 (srE x)) h:=by
 obtain⟨R,hR⟩:=wD (srE x)
 rw[<-hR];unfold srE at hR;have z1:=hz.sg;have z2:=hz.tk;have cN:=λh=>t53 x.sec h hz.sc
 cases g0:wL x.sec with
 |false=>
  rw[g0]at cN;rw[ipo g0]at hR;rw[hR];refine acO Xj ?_;simp (disch:=omega) only[Lj,strs,qm,go_sem]
  repeat' first|(refine cA (cN _) flk ?_;simp (disch:=omega) only[go_sem])|exact wm|fail
 |true=>
 rw[g0]at cN;rw[ine (by rw[g0];simp)]at hR
 by_cases g1:x.sig.length=0
 ·have k1:((x.sig.length:Int)=0)=True:=xv;rw[ipo g1]at hR;rw[hR];refine acO Xj ?_;simp (disch:=omega) only[Lj,strs,qm,go_sem]
  repeat' first|(refine cA (cN _) flk ?_;simp (disch:=omega) only[k1,go_sem])|exact wm|fail
 have k1:((x.sig.length:Int)=0)=False:=xD;rw[ine g1]at hR
 by_cases g2:32<x.sig.length
 ·have k2:((32:Int)<x.sig.length)=True:=xv;rw[ipo g2]at hR;rw[hR];refine acO Xj ?_;simp (disch:=omega) only[Lj,strs,qm,go_sem]
  repeat' first|(refine cA (cN _) flk ?_;simp (disch:=omega) only[k1,k2,go_sem])|exact wm|fail
 have k2:((32:Int)<x.sig.length)=False:=xD;rw[ine g2]at hR;refine acO Xj ?_;simp (disch:=omega) only[Lj,strs,qm,go_sem]
 repeat' first|(refine cA (cN _) flk ?_;simp (disch:=omega) only[k1,k2,go_sem])
 refine qp (T:=λi:Nat=>zw 81 [(1,strs x.sig),(2,qm x.tok),(7,.int .i64 i)]) (H:=λ_=>h) (inv:=λi=>i<=x.sig.length∧ ∀j,j<i->jT x.sig j=0) (m:=λi=>x.sig.length-i) 0 ⟨nzl _,λj hj=>by omega⟩ (Wk.temps ?_) ?_
 ·(simp only[strs,qm,go_sem,qg,qc,qa,qf];try exact wr)
 rintro i ⟨i1,i2⟩ K hK
 by_cases hi:i<x.sig.length
 ·have k3:((i:Int)<x.sig.length)=True:=xv;have hE:=wu (f:=jT x.sig) hi i2;have hs:jT x.sig i=if YW (x.sig.getD i [])=false then 14 else if jx (λj=>decide (x.sig.getD i []=x.sig.getD j [])) i=true then 7 else 0:=rfl
  have c87:=λh=>Rb (x.sig.getD i []) h (hz.ss i)
  obtain⟨s,hsx⟩:=wD (x.sig.getD i [])
  have es:=hsx.symm;rw[es]at hs c87;cases g3:YW s with
  |false=>
   rw[g3]at c87;rw[ipo g3]at hs;have hne:xM (jT x.sig) 0 x.sig.length≠0:=by rw[hE (by rw[hs];decide),hs];decide
   have hV:R=14:=by rw[hR,ipo hne,hE (by rw[hs];decide),hs]
   rw[hV];simp (disch:=omega) only[strs,qm,k3,es,go_sem]
   repeat' first|(refine cA (c87 _) flk ?_;simp (disch:=omega) only[go_sem])|exact wm|with_reducible apply aiA|exact clz|fail
  |true=>
  rw[g3]at c87;rw[ine (by rw[g3];simp)]at hs;simp (disch:=omega) only[strs,qm,k3,es,go_sem]
  repeat' first|(refine cA (c87 _) flk ?_;simp (disch:=omega) only[go_sem])|with_reducible apply aiA|exact clz|fail
  refine qp (T:=λk:Nat=>zw 81 [(1,strs x.sig),(2,qm x.tok),(7,.int .i64 i),(8,.int .i64 k)]) (H:=λ_=>h) (inv:=λk=>k<=i∧ ∀j,j<k-> ¬s=x.sig.getD j []) (m:=λk=>i-k) 0 ⟨nzl _,λj hj=>by omega⟩ (Wk.temps ?_) ?_
  ·(simp only[strs,qm,go_sem,qg,qc,qa,qf];try exact wr)
  rintro k ⟨u1,u2⟩ K2 hK2
  by_cases hk:k<i
  ·have t1:((k:Int)<i)=True:=xv;have t2:((k:Int)<x.sig.length)=True:=xv;obtain⟨y,hy⟩:=wD (x.sig.getD k [])
   have ey:=hy.symm
   by_cases g4:y=s
   ·have k4:(y=s)=True:=eqt g4;rw[ipo (qS.2 ⟨k,hk,by rw[ey,g4];simp⟩)]at hs;have hne:xM (jT x.sig) 0 x.sig.length≠0:=by rw[hE (by rw[hs];decide),hs];decide
    have hV:R=7:=by rw[hR,ipo hne,hE (by rw[hs];decide),hs]
    rw[hV];simp (disch:=omega) only[strs,qm,k3,t1,t2,k4,es,ey,go_sem]
    repeat' first|exact wm|with_reducible apply aiA|exact clz|fail
   ·have k4:(y=s)=False:=eqf g4;simp (disch:=omega) only[strs,qm,k3,t1,t2,k4,es,ey,go_sem]
    repeat' first|with_reducible apply aiA|exact clz|fail
    refine hK2 _ _ (k+1) ⟨hk,λj hj=> ?_⟩ om (Wk.temps ?_)
    ·by_cases e:j=k
     ·subst e;rw[ey];exact λe=>g4 e.symm
     ·exact u2 j om
    ·(simp only[strs,qm,go_sem,qg,qc,qa,qf];try exact wr)
  ·have t1:((k:Int)<i)=False:=xD;obtain rfl:k=i:=by omega
   rw[ine (by rw[qr.2 λj hj=>dqf (u2 j hj)];simp)]at hs;simp (disch:=omega) only[strs,qm,t1,go_sem];refine hK _ _ (k+1) ⟨hi,λj hj=> ?_⟩ om (Wk.temps ?_)
   ·by_cases e:j=k
    ·subst e;exact hs
    ·exact i2 j om
   ·(simp only[strs,qm,go_sem,qg,qc,qa,qf];try exact wr)
 have k3:((i:Int)<x.sig.length)=False:=xD;have hn0:=jk (f:=jT x.sig) (λj (hj:j<x.sig.length)=>i2 j om);rw[ine (λhc=>hc hn0)]at hR
 by_cases g5:x.tok.length=x.sig.length
 case neg=>
  have k5:((x.tok.length:Int)=x.sig.length)=False:=xD;rw[ipo g5]at hR;rw[hR];simp (disch:=omega) only[strs,qm,k3,k5,go_sem]
  repeat' first|exact wm|fail
 have k5:((x.tok.length:Int)=x.sig.length)=True:=xv;rw[ine (λhc=>hc g5)]at hR;clear hK;simp (disch:=omega) only[strs,qm,k3,k5,go_sem];obtain⟨rw0,hrw⟩: ∃f:Nat->Int,f=λi=>gS (x.tok.getD i []):=⟨_,rfl⟩
 have er: ∀i,rw0 i=gS (x.tok.getD i []):=λi=>by rw[hrw]
 rw[<-hrw]at hR;refine qp (T:=λi:Nat=>zw 81 [(2,qm x.tok),(9,.int .i64 i)]) (H:=λ_=>h) (inv:=λi=>i<=x.tok.length∧ ∀j,j<i->rw0 j=0) (m:=λi=>x.tok.length-i) 0 ⟨nzl _,λj hj=>by omega⟩ (Wk.temps ?_) ?_
 ·(simp only[qm,go_sem,qg,qc,qa,qf];try exact wr)
 rintro i ⟨i1,i2⟩ K hK
 by_cases hi:i<x.tok.length
 ·have k6:((i:Int)<x.tok.length)=True:=xv;have hE:=wu (f:=rw0) hi i2;have hs:=er i;have zl:=hz.tl i;have zt:=hz.te i;obtain⟨l,hl⟩:=wD (x.tok.getD i [])
  have el:=hl.symm;rw[el]at hs zl;simp only[el]at zt;unfold gS at hs
  by_cases g6:1024<l.length
  ·have k7:((1024:Int)<l.length)=True:=xv;rw[ipo g6]at hs;have hV:R=4:=by rw[hR,hE (by rw[hs];decide),hs]
   rw[hV];simp (disch:=omega) only[qm,zX,k6,k7,el,go_sem]
   repeat' first|exact wm|with_reducible apply aiA|exact clz|fail
  have k7:((1024:Int)<l.length)=False:=xD;rw[ine g6]at hs;simp (disch:=omega) only[qm,zX,k6,k7,el,go_sem]
  repeat' first|with_reducible apply aiA|exact clz|fail
  refine qp (T:=λk:Nat=>zw 81 [(2,qm x.tok),(9,.int .i64 i),(10,.int .i64 k)]) (H:=λ_=>h) (inv:=λk=>k<=l.length∧ ∀j,j<k->tkE (l.getD j default)=0) (m:=λk=>l.length-k) 0 ⟨nzl _,λj hj=>by omega⟩ (Wk.temps ?_) ?_
  ·(simp only[qm,zX,go_sem,qg,qc,qa,qf];try exact wr)
  rintro k ⟨u1,u2⟩ K2 hK2
  by_cases hk:k<l.length
  ·have t1:((k:Int)<l.length)=True:=xv;have cT:=tkR (l.getD k default) h (zt k) hp;obtain⟨t,ht⟩:=wD (l.getD k default)
   have et:=ht.symm;rw[et]at cT;obtain⟨e,he⟩:=wD (tkE t)
   rw[<-he]at cT;unfold tkC at cT
   by_cases g7:e=0
   ·have k8:(e=0)=True:=eqt g7;simp (disch:=omega) only[qm,zX,tkC,k6,t1,el,et,go_sem]
    repeat' first|(refine cA (cT) flk ?_;simp (disch:=omega) only[k8,go_sem])|with_reducible apply aiA|exact clz|fail
    refine hK2 _ _ (k+1) ⟨hk,λj hj=> ?_⟩ om (Wk.temps ?_)
    ·by_cases e:j=k
     ·subst e;rw[et,<-he];exact g7
     ·exact u2 j om
    ·(simp only[qm,zX,go_sem,qg,qc,qa,qf];try exact wr)
   ·have k8:(e=0)=False:=eqf g7;rw[ipo (qS.2 ⟨k,hk,by rw[et,<-he];simp[g7]⟩)]at hs;have hV:R=1:=by rw[hR,hE (by rw[hs];decide),hs]
    rw[hV];simp (disch:=omega) only[qm,zX,tkC,k6,t1,el,et,go_sem]
    repeat' first|(refine cA (cT) flk ?_;simp (disch:=omega) only[k8,go_sem])|exact wm|with_reducible apply aiA|exact clz|fail
  ·have t1:((k:Int)<l.length)=False:=xD;rw[ine (by rw[qr.2 λj (hj:j<l.length)=>by rw[u2 j om];simp];simp)]at hs;simp (disch:=omega) only[qm,zX,k6,t1,el,go_sem]
   repeat' first|with_reducible apply aiA|exact clz|fail
   refine hK _ _ (i+1) ⟨hi,λj hj=> ?_⟩ om (Wk.temps ?_)
   ·by_cases e:j=i
    ·subst e;exact hs
    ·exact i2 j om
   ·(simp only[qm,zX,go_sem,qg,qc,qa,qf];try exact wr)
 ·have k6:((i:Int)<x.tok.length)=False:=xD;rw[jk (λj (hj:j<x.tok.length)=>i2 j om)]at hR;rw[hR];simp (disch:=omega) only[qm,k6,go_sem]
  repeat' first|exact wm|fail
theorem coR(x:Co)(h:w6)(hz:yx x)(hp:kt SG h):ACalls Tryz.prog 29 [.agg (coC x)] h (.int .i64 (coE x)) h:=by
 have c1:=λl=>hdR x (h++l) hz (hp.app l)
 unfold coE
 by_cases g:srE x=0
 case neg=>
  have k1:(srE x=0)=False:=eqf g;rw[ipo g];obtain⟨e,he⟩:=wD (srE x)
  rw[<-he]at c1 k1 ⊢;refine acO NP ?_;simp (disch:=omega) only[qbQ,coC,go_sem]
  repeat' first|(refine cA (c1 _) flk ?_;simp (disch:=omega) only[k1,go_sem])|exact wj|fail
 rw[ine (λhc=>hc g)];obtain⟨o1,o2,o3,o4⟩:=B9 g;rw[g]at c1;have zg1: ∀g,valL g .len [strs x.sig]= .int .i64 x.tok.length:=λ_=>by rw[o3];rfl
 have zg2: ∀g,okL g .len [strs x.sig]=True:=λ_=>eqt trivial
 have hn:=hz.tk;have hc:=hz.cl;have hl:=hz.tl;have hm:=hz.ce;obtain⟨R,hR⟩:=wD (if alB x.tok x.col=false then (19:Int) else 0)
 rw[<-hR];have k0:(0<=(x.tok.length:Int))=True:=xv;have k1:((x.tok.length:Int)<=9223372036854775807)=True:=xv;have eS:=o3.symm;refine acO NP ?_;simp (disch:=omega) only[qbQ,coC,go_sem]
 repeat' first|(refine cA (c1 _) flk ?_;simp (disch:=omega) only[k0,zg1,zg2,go_sem])|with_reducible apply aiA|exact clz|fail
 all_goals try rw[itn]
 rw[mR];obtain⟨tok,htok⟩:=wD x.tok
 obtain⟨col,hcol⟩:=wD x.col
 have eS2:x.sig.length=tok.length:=by rw[htok];exact eS
 rw[<-htok,<-hcol]at hR;rw[<-htok]at k0 k1 hn;simp only[<-htok]at hl o4;rw[<-hcol]at hc;simp only[<-hcol]at hm;have eC:coC x= [.str x.sec,strs x.sig,qm tok,qo col]:=by rw[htok,hcol];rfl
 have zc:qo col= .sl col.length λi=> [qz (col.getD i [])]:=rfl
 have zt:qm tok= .sl tok.length λi=> [zX (tok.getD i [])]:=rfl
 try simp only[<-htok,<-hcol]
 rw[<-HD (col:=col)];refine qp (T:=λi:Nat=>zw 99 [(1,.op h.length 1 0),(4,.osl (h.length+1) 1 1 0 tok.length),(5,.int .i64 i)])
  (H:=λi=>h++ [.mem 1 26 [.str x.sec,strs x.sig,qm tok,qo col],.mem 1 3 (gC (atA col i 0) tok.length)])
  (inv:=λi=>i<=col.length∧ ∀j,j<i->iH tok col j=true) (m:=λi=>col.length-i) 0 ⟨nzl _,λj hj=>absurd hj (nnz j)⟩ (Wk.temps ?_) ?_
 ·(simp only[strs,zt,zc,go_sem,qg,qc,qa,qf];try exact wr)
 rintro i ⟨i1,i2⟩ K hK
 by_cases hi:i<col.length
 ·have k2:((i:Int)<col.length)=True:=xv;have ki:(0<=(i:Int))=True:=xv;have hno:iH tok col i=false->R=19:=λhx=>by rw[hR,Hw hi hx,ipo rfl]
  have hlen:= @QC tok col i;have hen:= @A6 tok col i;have heq:= @A7 tok col i;have hskip:= @oo col i;have hstep:= @oq col i;have hmi:=hm i;have hE: ∀s,enB tok col i s=(decide ((col.getD i []).getD s 0= -1)||(decide ((col.getD i []).getD s 0=(cnC col s i:Int))&&decide ((col.getD i []).getD s 0<((tok.getD s []).length:Int)))):=λ_=>rfl
  obtain⟨c,hcx⟩:=wD (col.getD i [])
  have ec:=hcx.symm;rw[ec]at hlen heq hmi;simp only[ec]at hskip hstep hE
  by_cases g1:c.length=tok.length
  case neg=>
   have k3:((c.length:Int)=tok.length)=False:=xD;rw[hno (hlen g1)];simp (disch:=omega) only[zc,qz,k2,ki,k3,ec,go_sem]
   repeat' first|exact wj|with_reducible apply aiA|exact clz|fail
  have k3:((c.length:Int)=tok.length)=True:=xv;have heq:=heq g1;simp (disch:=omega) only[zc,qz,k2,ki,k3,ec,go_sem]
  repeat' first|with_reducible apply aiA|exact clz|fail
  refine qp (T:=λs:Nat=>zw 99 [(1,.op h.length 1 0),(4,.osl (h.length+1) 1 1 0 tok.length),(5,.int .i64 i),(6,qz c),(7,.bool (jx (λs=> !decide (c.getD s 0= -1)) s)),(8,.int .i64 s)])
   (H:=λs=>h++ [.mem 1 26 [.str x.sec,strs x.sig,qm tok,qo col],.mem 1 3 (gC (atA col i s) tok.length)])
   (inv:=λs=>s<=c.length∧ ∀j,j<s->enB tok col i j=true) (m:=λs=>c.length-s) 0 ⟨nzl _,λj hj=>absurd hj (nnz j)⟩ (Wk.temps ?_) ?_
  ·(simp only[qz,go_sem,qg,qc,qa,qf];try exact wr)
  rintro s ⟨s1,s2⟩ K2 hK2
  by_cases hs:s<c.length
  ·have t1:((s:Int)<c.length)=True:=xv;have t0:(0<=(s:Int))=True:=xv;have hsn:s<tok.length:=by omega
   have t2:((s:Int)<tok.length)=True:=xv;have t3:(s<tok.length)=True:=eqt hsn;have t4:(s+1<=tok.length)=True:=eqt hsn;have gl:=kR (atA col i s) tok.length;have gg:=xr (g:=atA col i s) hsn;rw[AW]at gg;have hsk:=hskip (s:=s) (n:=tok.length);have hst:=hstep (s:=s) hsn;have hcn:= @A5 col s i;have hlt:=hl s;have hEs:=hE s;have hap:=ir (λs=> !decide (c.getD s 0= -1)) s;obtain⟨t,ht⟩:=wD (c.getD s 0)
   obtain⟨l,hlx⟩:=wD (tok.getD s [])
   have et:=ht.symm;have el:=hlx.symm;rw[et]at hsk hst hEs;rw[el]at hEs hlt;simp only[et]at hap;obtain⟨a,ha⟩:=wD (jx (λs=> !decide (c.getD s 0= -1)) s)
   have ea:=ha.symm;rw[ea]at hap;obtain⟨q,hq⟩: ∃q:Nat,q=cnC col s i:=⟨_,rfl⟩
   have eq:=hq.symm;rw[eq]at hst hEs hcn gg;have b2:((q:Int)+1<=9223372036854775807)=True:=xv;have b3:(-9223372036854775808<=(q:Int)+1)=True:=xv
   by_cases g2:t= -1
   ·have k4:(t= -1)=True:=eqt g2;rw[dqt g2,Bool.true_or]at hEs;have hap':jx (λs=> !decide (c.getD s 0= -1)) (s+1)=a:=by rw[hap,dqt g2];simp
    simp (disch:=omega) only[qz,t0,t1,t2,t3,k4,et,ea,gl,gg,Nat.mul_one,Nat.zero_add,go_sem]
    repeat' first|with_reducible apply aiA|exact clz|fail
    rw[hsk g2];refine hK2 _ _ (s+1) ⟨hs,λj hj=> ?_⟩ om (Wk.temps ?_)
    ·by_cases e:j=s
     ·subst e;exact hEs
     ·exact s2 j om
    ·rw[hap']
     (simp only[qz,go_sem,qg,qc,qa,qf];try exact wr)
   have k4:(t= -1)=False:=eqf g2;rw[dqf g2,Bool.false_or]at hEs;have hap':jx (λs=> !decide (c.getD s 0= -1)) (s+1)=true:=by rw[hap,dqf g2];simp
   by_cases g3:t=(q:Int)
   case neg=>
    have k5:(t=(q:Int))=False:=eqf g3;rw[dqf g3,Bool.false_and]at hEs;rw[hno (hen hsn hEs)];simp (disch:=omega) only[zt,qz,t0,t1,t2,t3,t4,k4,k5,et,ea,gl,gg,Nat.mul_one,Nat.zero_add,go_sem]
    repeat' first|exact wj|with_reducible apply aiA|exact clz|fail
   have k5:(t=(q:Int))=True:=eqt g3;rw[dqt g3,Bool.true_and]at hEs
   by_cases g4:(l.length:Int)<=t
   ·have k6:((l.length:Int)<=t)=True:=eqt g4;rw[dqf om]at hEs;rw[hno (hen hsn hEs)];simp (disch:=omega) only[zt,zX,qz,t0,t1,t2,t3,t4,k4,k5,k6,et,ea,el,gl,gg,Nat.mul_one,Nat.zero_add,go_sem]
    repeat' first|exact wj|with_reducible apply aiA|exact clz|fail
   ·have k6:((l.length:Int)<=t)=False:=eqf g4;rw[dqt om]at hEs;have hst:=hst g2;simp (disch:=omega) only[zt,zX,qz,t0,t1,t2,t3,t4,k4,k5,k6,et,ea,el,gl,gg,hst,Nat.mul_one,Nat.zero_add,Option.isSome_some,go_sem]
    repeat' first|with_reducible apply aiA|exact clz|fail
    try rw[hst]
    refine hK2 _ _ (s+1) ⟨hs,λj hj=> ?_⟩ om (Wk.temps ?_)
    ·by_cases e:j=s
     ·subst e;exact hEs
     ·exact s2 j om
    ·rw[hap']
     (simp only[qz,go_sem,qg,qc,qa,qf];try exact wr)
  ·have t1:((s:Int)<c.length)=False:=xD;have es:s=tok.length:=by omega
   have heq:=heq λj hj=>s2 j om
   rw[<-es]at heq;cases ga:jx (λs=> !decide (c.getD s 0= -1)) s with
   |false=>
    rw[ga]at heq;rw[hno heq];simp (disch:=omega) only[qz,t1,go_sem]
    repeat' first|exact wj|fail
   |true=>
    rw[ga]at heq;simp (disch:=omega) only[qz,t1,go_sem];have ege:gC (atA col i s) tok.length=gC (atA col (i+1) 0) tok.length:=by rw[es];exact t7 _
    rw[ege];refine hK _ _ (i+1) ⟨hi,λj hj=> ?_⟩ om (Wk.temps ?_)
    ·by_cases e:j=i
     ·subst e;exact heq
     ·exact i2 j om
    ·(simp only[go_sem,qg,qc,qa,qf];try exact wr)
 have k2:((i:Int)<col.length)=False:=xD;obtain rfl:i=col.length:=by omega
 clear hK;simp (disch:=omega) only[zc,k2,go_sem]
 repeat' first|with_reducible apply aiA|exact clz|fail
 refine qp (T:=λs:Nat=>zw 99 [(1,.op h.length 1 0),(4,.osl (h.length+1) 1 1 0 tok.length),(9,.int .i64 s)])
  (H:=λ_=>h++ [.mem 1 26 [.str x.sec,strs x.sig,qm tok,qo col],.mem 1 3 (gC (atA col col.length 0) tok.length)])
  (inv:=λs=>s<=tok.length∧ ∀j,j<s->cnC col j col.length=(tok.getD j []).length) (m:=λs=>tok.length-s) 0 ⟨nzl _,λj hj=>absurd hj (nnz j)⟩ (Wk.temps ?_) ?_
 ·(simp only[go_sem,qg,qc,qa,qf];try exact wr)
 rintro s ⟨s1,s2⟩ K hK
 by_cases hs:s<tok.length
 ·have t1:((s:Int)<tok.length)=True:=xv;have t0:(0<=(s:Int))=True:=xv;have t3:(s<tok.length)=True:=eqt hs;have t4:(s+1<=tok.length)=True:=eqt hs;have gl:=kR (atA col col.length 0) tok.length;have gg:=xr (g:=atA col col.length 0) hs;have e0:atA col col.length 0 s= .int .i64 (cnC col s col.length:Int):=by unfold atA;rw[ine (nnz _)]
  rw[e0]at gg;have hno:= @AS tok col s hs;obtain⟨q,hq⟩: ∃q:Nat,q=cnC col s col.length:=⟨_,rfl⟩
  have eq:=hq.symm;have hs2:q=(tok.getD s []).length->cnC col s col.length=(tok.getD s []).length:=λe=>by rw[<-hq];exact e
  rw[eq]at gg hno;obtain⟨l,hlx⟩:=wD (tok.getD s [])
  have el:=hlx.symm;rw[el]at hno hs2
  by_cases g:q=l.length
  ·have k5:((q:Int)=l.length)=True:=xv;simp (disch:=omega) only[zt,zX,t0,t1,t3,k5,el,gl,gg,Nat.mul_one,Nat.zero_add,go_sem]
   repeat' first|with_reducible apply aiA|exact clz|fail
   refine hK _ _ (s+1) ⟨hs,λj hj=> ?_⟩ om (Wk.temps ?_)
   ·by_cases e:j=s
    ·subst e;rw[el];exact hs2 g
    ·exact s2 j om
   ·(simp only[go_sem,qg,qc,qa,qf];try exact wr)
  ·have k5:((q:Int)=l.length)=False:=xD;rw[hR,hno g,ipo rfl];simp (disch:=omega) only[zt,zX,t0,t1,t3,k5,el,gl,gg,Nat.mul_one,Nat.zero_add,go_sem]
   repeat' first|exact wj|with_reducible apply aiA|exact clz|fail
 ·have t1:((s:Int)<tok.length)=False:=xD;rw[hR,AT i2 (λj hj=>s2 j om),ine (by simp)];simp (disch:=omega) only[t1,go_sem]
  repeat' first|exact wj|fail
def deE(b:List Wd)(i:Int):Int:=if i<0∨(b.length:Int)<=i then 2 else 0
def deR(b:List Wd)(i:Int):Int:=if deE b i=0 then (b.getD i.toNat default).dec else 0
theorem Lu(b:List Wd)(i:Int)(h:w6):ACalls Tryz.prog 18 [zV b,.int .i64 i] h (.tup [.int .i64 (deR b i),.int .i64 (deE b i)]) h:=by
 have zb:zV b= .sl b.length λi=>wdC (b.getD i default):=rfl
 obtain⟨E,hE⟩:=wD (deE b i)
 have hR:deR b i=if E=0 then (b.getD i.toNat default).dec else 0:=by rw[hE];rfl
 rw[hR,<-hE];unfold deE at hE
 by_cases g1:i<0
 ·have k1:(i<0)=True:=eqt g1;rw[ipo (.inl g1)]at hE;rw[hE,ine (by decide)];refine acO Eb ?_;simp (disch:=omega) only[qbt,zb,k1,go_sem]
  repeat' first|exact wm|fail
 have k1:(i<0)=False:=eqf g1
 by_cases g2:(b.length:Int)<=i
 ·have k2:((b.length:Int)<=i)=True:=eqt g2;rw[ipo (.inr g2)]at hE;rw[hE,ine (by decide)];refine acO Eb ?_;simp (disch:=omega) only[qbt,zb,k1,k2,go_sem]
  repeat' first|exact wm|fail
 have k2:((b.length:Int)<=i)=False:=eqf g2;have k3:(0<=i)=True:=xv;have k4:(i<b.length)=True:=xv;rw[ine om]at hE;rw[hE,ipo rfl];refine acO Eb ?_;simp (disch:=omega) only[qbt,zb,wdC,k1,k2,k3,k4,go_sem]
 repeat' first|exact wm|fail
end RC
end
section
open Go Go.Proofs AF
end
section
open Go Go.Proofs AF HY LN
namespace RC
end RC
end
section
open Go Go.Proofs AF
def Ey:List Nat:= []
def CZ:C:=
 (v6 [ON 2 (.nilo 0 1 3) []] ((v6 [MV 3 0,O1 4 (.isnil .slice false) 3] (v7 4 (wa [ON 2 (.nilo 0 1 3) []]))).seq (wa [⟨some 5,none,.bslc 1 1 0 3 [i6 0] [],[]⟩,MV 6 0,O2 7 (.app 2
 1 3 8) 5 6,MV 2 7])))
theorem Bd:qN Tryz.prog 130 8 3 [RV.tmp 2] CZ:=fi Tryz.f130 [2,5,7] Ey []
end
section
open Go Go.Proofs AF HY LN
namespace RC
def hsK(l:List Un)(b:List Wd)(k:Nat):List Int:=if 0<=brK l b k then ((l.getD k default).rds.getD (brK l b k).toNat default).src else []
def tP(n:Nat):List Int:=(List.range n).map (λi:Nat=>(i:Int))
def soK(x:Co)(l:List Un)(b:List Wd)(i:Nat):List Int:=if (b.getD i default).unit<0 then tP x.sig.length else hsK l b (b.getD i default).unit.toNat
theorem tX(n:Nat):tP (n+1)=tP n++ [(n:Int)]:=by unfold tP;rw[List.range_succ,List.map_append];rfl
theorem fh(n:Nat):(tP n).length=n:=by simp[tP]
theorem mA(l:List Un)(b:List Wd)(k:Nat):brK l b k<(l.getD k default).rds.length:=by
 unfold brK;rcases zI (λr=>decide (((l.getD k default).rds.getD r default).words=owG b (k:Int) b.length)) (l.getD k default).rds.length with⟨i,h1,_,_,h4⟩|⟨_,h2⟩
 ·rw[h4];omega
 ·rw[h2];omega
theorem Ep{l:List Un}{b:List Wd}{k:Nat}(hu:bo l):(hsK l b k).length<=1000000000:=by
 unfold hsK;split
 ·exact hu.sr _ _
 ·exact nzl _
theorem bS(h:w6)(L:List Int):qk h (qz L)=some (L.length,qT L):=by
 show some (L.length,_)=_;rw[fmI]
theorem rV{L:List Int}(h:L≠ []):valP (.isnil .slice false) [qz L]= .bool false:=by
 unfold qz;rw[kM,ine (by simpa using h)];rfl
theorem qca(h:w6):ACalls Tryz.prog 130 [qz []] h (qz []) h:=by
 have s1:=λh=>bS h []
 have z0:valP (.isnil .slice false) [qz []]= .anyb:=rfl;have z1:okP (.isnil .slice false) [qz []]=True:=eqt trivial;have e0:qT []= []:=rfl;refine acO Bd ?_;simp (disch:=omega) only[CZ,s1,z0,z1,e0,go_sem]
 repeat' first|(apply qb;exact rvk;simp only[go_sem])|with_reducible apply aiA|exact clz|fail
 ·exact qY
 ·rfl
 ·exact VLe.sl_eq rfl (λi hi=>absurd hi (by simp))
theorem qfh(L:List Int)(h:w6)(k:Nat)(hk:qK h k=true)(h0:L≠ [])(hl:L.length<=1000000000):
  ACalls Tryz.prog 130 [qz L] h (.osl k (qn (qv k h)+1) 1 0 L.length) (qu k h (.mem (qn (qv k h)+1) 3 (qT L))):=by
 have s1:=λh=>bS h L
 have eP:=jy L;have hp:=List.length_pos_iff.2 h0;have z0:=rV h0;have z1:okP (.isnil .slice false) [qz L]=True:=eqt trivial;refine bX Bd k (by simp) ?_;simp only[lco,lnl,Nat.reduceAdd,Nat.reduceSub,List.replicate,lca,lna];simp (disch:=omega) only[CZ,s1,z0,z1,go_sem]
 repeat' first|(with_reducible apply aiA)
 all_goals first
  |omega
  |contradiction
  |skip
 ·rfl
 exact⟨h.length+1,2,1,0,L.length,3,qT L,_,⟨trivial,trivial⟩,rfl,rfl,om,by simp only[go_sem],Zz L _,hk,rfl,rfl⟩
theorem Rh(x:Co)(l:List Un)(b:List Wd)(i:Nat)(h:w6)(hu:bo l)(hb:b.length<=1000000)(hi:i<b.length)(hn:x.sig.length<=1000000)(hul:(b.getD i default).unit<(l.length:Int)):
  ACalls Tryz.prog 74 [.agg (coC x),zf l,zV b,.int .i64 (i:Int)] h (qz (soK x l b i)) h:=by
 have zb:zV b= .sl b.length λi=>wdC (b.getD i default):=rfl
 have zu:zf l= .sl l.length λi=>unC (l.getD i default):=rfl
 have zs1: ∀g,valL g .len [strs x.sig]= .int .i64 x.sig.length:=λ_=>rfl
 have zs2: ∀g,okL g .len [strs x.sig]=True:=λ_=>eqt trivial
 have k5:(0<=(i:Int))=True:=xv;have k6:((i:Int)<b.length)=True:=xv;unfold soK;obtain⟨w,hw⟩:=wD (b.getD i default)
 have ew:=hw.symm;rw[ew]at hul ⊢
 by_cases g1:w.unit<0
 ·have k1:(w.unit<0)=True:=eqt g1;rw[ipo g1];refine acO Xg ?_;simp (disch:=omega) only[Lc,coC,zb,wdC,k1,k5,k6,ew,zs1,zs2,go_sem];refine qp (T:=λs:Nat×Nat×AObj=>zw 48 [(10,.osl (h.length+2) s.2.1 1 0 s.1),(22,.int .i64 x.sig.length),(23,.int .i64 s.1)])
   (H:=λs=>h++ [.mem 1 26 [.str x.sec,strs x.sig,qm x.tok,qo x.col],.emp 1,zE s.2.1 3 (qT (tP s.1)),s.2.2,.emp 0])
   (inv:=λs=>s.1<=x.sig.length∧qK [s.2.2] 0=true) (m:=λs=>x.sig.length-s.1) (0,1,.emp 0) ⟨nzl _,rfl⟩ (Wk.temps ?_) ?_
  ·(simp only[go_sem,qg,qc,qa,qf];try exact wr)
  rintro⟨j,v,O⟩ ⟨j1,j2⟩ K hK;simp only at j1 j2 hK;have j2': ∀m,qK (O::m) 0=true:=λ_=>j2
  have hst:=tX j;have hln:=fh j;obtain⟨M,hM⟩:=wD (tP j)
  rw[<-hM]at hst hln ⊢;have eC:=jy M;rw[hln]at eC;have eT:List.take j (qT M)=qT M:=ltl om
  by_cases hj:j<x.sig.length
  ·have r1:((j:Int)<x.sig.length)=True:=xv;simp (disch:=omega) only[r1,j2',eC,eT,Nat.mul_one,go_sem]
   repeat' first|with_reducible apply aiA|exact clz|fail
   have eA:qT M++ [AV.int .i64 (j:Int)]=qT (tP (j+1)):=by rw[hst,i7];rfl
   have eD:(AV.int .i64 (j:Int)::List.drop 1 (zU [AV.int .i64 0] 1))= [AV.int .i64 (j:Int)]:=rfl
   try rw[eD]
   try rw[eA]
   refine hK _ _ (j+1,v+1,.mem (qn (some O)+1) 3 [.int .i64 (j:Int)]) ⟨hj,rfl⟩ (by simp only;omega) (Wk.temps ?_)
   (simp only[go_sem,qg,qc,qa,qf];try exact wr)
  ·obtain rfl:j=x.sig.length:=by omega
   have r1:((x.sig.length:Int)<x.sig.length)=False:=xD;rw[hM];simp (disch:=omega) only[r1,go_sem]
   repeat' first|(apply qb;exact rvk;simp only[go_sem])
   exact pF (λ_=>rfl) (fh _).symm
 have k1:(w.unit<0)=False:=eqf g1;rw[ine g1];obtain⟨k,hk⟩: ∃k:Nat,w.unit=(k:Int):=⟨w.unit.toNat,om⟩
 rw[hk]at hul k1;rw[hk,itn];have c107:=λh=>Py l b k h hu hb om
 have hlt:=mA l b k;have hsl:=Ep (b:=b) (k:=k) hu;have hd:hsK l b k=if 0<=brK l b k then ((l.getD k default).rds.getD (brK l b k).toNat default).src else []:=rfl
 have q1:(0<=(k:Int))=True:=xv;have q2:((k:Int)<l.length)=True:=xv;obtain⟨r,hr⟩:=wD (brK l b k)
 rw[<-hr]at hd hlt;simp only[<-hr]at c107
 by_cases g2:0<=r
 case neg=>
  have k2:(0<=r)=False:=eqf g2;rw[ine g2]at hd;rw[hd];refine acO Xg ?_;simp (disch:=omega) only[Lc,coC,zb,wdC,k1,k5,k6,ew,hk,go_sem]
  repeat' first|(refine cA (c107 _) flk ?_;simp (disch:=omega) only[k2,go_sem])|(apply qb;exact rvk;simp only[go_sem])
  exact qY
 have k2:(0<=r)=True:=eqt g2;rw[ipo g2]at hd;obtain⟨u,hux⟩:=wD (l.getD k default)
 have eu:=hux.symm;rw[eu]at hd hlt;have q3:(r<u.rds.length)=True:=eqt hlt;obtain⟨S,hS⟩:=wD (hsK l b k)
 rw[<-hS]at hd hsl ⊢;have eS:=hd.symm;have zr:j6 u.rds= .sl u.rds.length λi=>rdC (u.rds.getD i default):=rfl
 by_cases g3:S= []
 ·subst g3;have c156:=λh=>qca h
  refine acO Xg ?_;simp (disch:=omega) only[Lc,coC,zb,wdC,k1,k5,k6,ew,hk,go_sem]
  repeat' first|(refine cA (c107 _) flk ?_;simp (disch:=omega) only[zu,unC,zr,rdC,k2,q1,q2,q3,eu,eS,go_sem])|with_reducible apply aiA|exact clz|fail
  refine qE (c156 _) (by exact flk) ?_;simp (disch:=omega) only[go_sem]
  repeat' first|exact wj|fail
 refine acO Xg ?_;simp (disch:=omega) only[Lc,coC,zb,wdC,k1,k5,k6,ew,hk,go_sem]
 repeat' first|(refine cA (c107 _) flk ?_;simp (disch:=omega) only[zu,unC,zr,rdC,k2,q1,q2,q3,eu,eS,go_sem])|with_reducible apply aiA|exact clz|fail
 refine qE (qfh S _ (h.length+2) (by simp only[go_sem]) g3 hsl) (by exact flk) ?_;simp (disch:=omega) only[go_sem]
 repeat' first|(apply qb;exact rvk;simp only[go_sem])
 rw[ipo (by rw[jy];exact nlr _)];exact lg _ (λ_=>rfl) rfl
end RC
end
section
open Go Go.Proofs AF
def bH:List Nat:= []
def qbY:C:=
 (v6 [ON 4 (.nilo 0 1 3) []] ((v6 [MV 9 1,vV 10 .lss 9 0] (v7 10 C.bad)).seq (v6 [MV 13 0,O1 14 .len 13,O1 15 (.conv .u64) 14,MV 16 1,O1 17 (.conv .u64) 16,O2 18 (.call 133 true)
 15 17,MV 12 18,O1 19 (.ext 0) 12,O1 20 (.ext 1) 12,MV 5 19,MV 6 20] ((v6 [MV 21 5,BC 22 .gtr 21 (.int .u64 0),MV 23 22,vY 24 23 6,vZ 25 23 (.bin .gtr) 24 (.int .u64
 9223372036854775807),PT 26 23 25] (v7 26 C.bad)).seq (v6 [MV 28 6,O1 29 (.conv .i64) 28,⟨some 30,none,.mkslc 1 1 3 [i6 0] 8,[.t 29,.t 29]⟩,MV 7 30] (v6 [MV 31 7,MV 32 0,O2 33
 (.cpy 1) 31 32,MV 8 33] ((C.block 0 ((wg 34 8 7 0).seq (C.block 1 (wc [MV 38 8,MV 39 7,MV 40 8,O2 41 (.slc 1 true false) 39 40,MV 42 7,MV 43 8,O2 44 (.slc 1 false true) 42
 43,O2 45 (.cpy 1) 41 44,BI 46 .add 38 45,MV 8 46]))).loop).seq (wa [MV 47 7,MV 4 47]))))))))
theorem Oc:qN Tryz.prog 79 48 2 [RV.tmp 4] qbY:=fi Tryz.f79 [4,30] bH []
def HU:C:=
 (v6 [MC 4 (.int .u64 0),MC 5 (.int .u64 0)] ((C.cond (.c (.bool false)) (v6 [MV 11 0,O1 12 (.conv .u32) 11,MV 13 1,O1 14 (.conv .u32) 13,O2 15 (.call 183 true) 12 14,MV 10 15,O1
 16 (.ext 0) 10,O1 17 (.ext 1) 10,MV 6 16,MV 7 17] (wa [MV 18 6,O1 19 (.conv .u64) 18,MV 20 7,O1 21 (.conv .u64) 20,MV 4 19,MV 5 21])) C.skip).seq (v6 [MV 23 0,MV 24 1,O2 25
 (.call 184 true) 23 24,MV 22 25,O1 26 (.ext 0) 22,O1 27 (.ext 1) 22,MV 8 26,MV 9 27] (wa [MV 28 8,MV 29 9,MV 4 28,MV 5 29]))))
theorem Md:qN Tryz.prog 133 30 0 [RV.tmp 4,RV.tmp 5] HU:=fi Tryz.f133 [] bH []
def Im:C:=
 (v6 [MC 4 (.int .u64 0),MC 5 (.int .u64 0)] (v6 [MV 14 0,BC 15 .and 14 (.int .u64 4294967295),MV 6 15] (v6 [MV 16 0,BC 17 .shr 16 (.int .u64 32),MV 7 17] (v6 [MV 18 1,BC 19 .and
 18 (.int .u64 4294967295),MV 8 19] (v6 [MV 20 1,BC 21 .shr 20 (.int .u64 32),MV 9 21] (v6 [MV 22 6,MV 23 8,BI 24 .mul 22 23,MV 10 24] (v6 [MV 25 7,MV 26 8,BI 27 .mul 25 26,MV
 28 10,BC 29 .shr 28 (.int .u64 32),BI 30 .add 27 29,MV 11 30] (v6 [MV 31 11,BC 32 .and 31 (.int .u64 4294967295),MV 12 32] (v6 [MV 33 11,BC 34 .shr 33 (.int .u64 32),MV 13 34]
 (v6 [MV 35 12,MV 36 6,MV 37 9,BI 38 .mul 36 37,BI 39 .add 35 38,MV 12 39] (v6 [MV 40 7,MV 41 9,BI 42 .mul 40 41,MV 43 13,BI 44 .add 42 43,MV 45 12,BC 46 .shr 45 (.int .u64
 32),BI 47 .add 44 46,MV 4 47] (wa [MV 48 0,MV 49 1,BI 50 .mul 48 49,MV 5 50]))))))))))))
theorem M3:qN Tryz.prog 184 51 0 [RV.tmp 4,RV.tmp 5] Im:=fi Tryz.f184 [] bH []
def qbu:C:=
 (v6 [ON 2 (.nilo 0 3 64) []] ((v6 [MV 3 0,O1 4 (.isnil .slice false) 3] (v7 4 (wa [ON 2 (.nilo 0 3 64) []]))).seq (wa [⟨some 5,none,.bslc 1 3 0 64 [i6 0,i6 0,.nl] [],[]⟩,MV 6
 0,O2 7 (.app 2 3 64 40) 5 6,MV 2 7])))
theorem Ec:qN Tryz.prog 82 8 3 [RV.tmp 2] qbu:=fi Tryz.f82 [2,5,7] bH []
end
section
open Go Go.Proofs AF HY LN
namespace RC
def xZ(L:List Un):w7:=L.flatMap unC
theorem KY(u:Un):(unC u).length=3:=rfl
theorem bU(L:List Un):(xZ L).length=L.length*3:=by
 unfold xZ
 induction L with
 |nil=>rfl
 |cons a L ih=>rw[List.flatMap_cons,lap,ih,lco,KY];omega
theorem An(A B:List Un):xZ (A++B)=xZ A++xZ B:=by simp[xZ]
theorem Ao(a:Un):xZ [a]=unC a:=by simp[xZ]
theorem KZ(L:List Un): ∀i,(xZ L).drop (i*3)=xZ (L.drop i):=by
 induction L with
 |nil=>intro i;simp[xZ]
 |cons a L ih=>
  intro i;cases i with
  |zero=>simp
  |succ i=>
   rw[show xZ (a::L)=unC a++xZ L from rfl,show (a::L).drop (i+1)=L.drop i from rfl,<-ih i];rw[show (i+1)*3=(unC a).length+i*3 by rw[KY];omega,List.drop_append,List.drop_eq_nil_of_le om,lna,Nat.add_sub_cancel_left]
theorem pU{L:List Un}{i:Nat}(hi:i<L.length):((xZ L).drop (i*3)).take 3=unC (L.getD i default):=by
 rw[KZ,List.drop_eq_getElem_cons hi,gdqA,zG hi];rfl
theorem Xc(L:List Un):((List.range L.length).flatMap λi=>unC (L.getD i default))=xZ L:=by
 unfold xZ;have e:L=(List.range L.length).map λi=>L.getD i default:=by
  apply List.ext_getElem (by simp);intro i h1 h2;simp[gdqA,h1]
 conv=>rhs;rw[e]
 rw[List.flatMap_map]
theorem KA(h:w6)(L:List Un):qk h (zf L)=some (L.length,xZ L):=by
 show some (L.length,_)=_;rw[Xc]
theorem gX(L:List Un)(n:Nat): ∀c∈xZ L,ze n c=true:=by
 intro c hc;unfold xZ at hc;obtain⟨x,_,hx⟩:=List.mem_flatMap.1 hc;simp only[unC,List.mem_cons,List.not_mem_nil,or_false]at hx;rcases hx with rfl|rfl|rfl<;>rfl
theorem ZD{L:List Un}(h:L≠ []):valP (.isnil .slice false) [zf L]= .bool false:=by
 unfold zf;rw[kM,ine (by simpa using h)];rfl
theorem qfi(L:List Un)(h:w6)(k:Nat)(hk:qK h k=true)(h0:L≠ [])(hl:L.length<=1000000000):
  ACalls Tryz.prog 82 [zf L] h (.osl k (qn (qv k h)+1) 3 0 L.length) (qu k h (.mem (qn (qv k h)+1) 64 (xZ L))):=by
 have s1:=λh=>KA h L
 have eP:=bU L;have hp:=List.length_pos_iff.2 h0;have z0:=ZD h0;have z1:okP (.isnil .slice false) [zf L]=True:=eqt trivial;refine bX Ec k (by simp) ?_;simp only[lco,lnl,Nat.reduceAdd,Nat.reduceSub,List.replicate,lca,lna];simp (disch:=omega) only[qbu,s1,z0,z1,go_sem]
 repeat' first|(with_reducible apply aiA)
 all_goals first
  |omega
  |contradiction
  |skip
 all_goals try rfl
 exact⟨h.length+1,2,3,0,L.length,64,xZ L,_,⟨trivial,trivial⟩,rfl,rfl,om,by simp only[go_sem],gX L _,hk,rfl,rfl⟩
theorem ii{n:Int}(h0:0<=n)(h1:n<18446744073709551616):IntKind.u64.wrap n=n:=by
 have e1:(2:Int)^IntKind.bits IntKind.u64=18446744073709551616:=rfl;have e3:IntKind.signed IntKind.u64=false:=rfl;unfold IntKind.wrap;rw[e1,e3];simp only[Bool.false_and,Bool.false_eq_true,if_false];omega
theorem J2{a:Int}:Hn .u64 a 32=a/4294967296:=by
 have e:(2:Int)^(min (32:Int).toNat IntKind.u64.bits)=4294967296:=rfl;unfold Hn;rw[e,Int.fdiv_eq_ediv_of_nonneg _ om]
theorem HA{n:Nat}(hn:n<=1000000000):VK .u64 (n:Int) 4294967295=n:=by
 have e:IntKind.u64.bits=64:=rfl;unfold VK;rw[e,BitVec.toNat_and,BitVec.toNat_ofInt,BitVec.toNat_ofInt];have e2:((n:Int)%((2^64:Nat):Int)).toNat=n:=by
  rw[show ((2^64:Nat):Int)=18446744073709551616 by rfl];omega
 have e3:((4294967295:Int)%((2^64:Nat):Int)).toNat=2^32-1:=by rfl
 rw[e2,e3,Nat.and_two_pow_sub_one_eq_mod,ii om om];omega
theorem qfL(n:Nat)(h:w6)(hn:n<=1000000000):ACalls Tryz.prog 184 [.int .u64 1,.int .u64 (n:Int)] h (.tup [.int .u64 0,.int .u64 (n:Int)]) h:=by
 have e0:Hn .u64 1 32=0:=by rw[J2];rfl
 have e1:Hn .u64 (n:Int) 32=0:=by rw[J2];omega
 have e2:Hn .u64 0 32=0:=by rw[J2];rfl
 have e3:VK .u64 1 4294967295=1:=by decide+kernel
 have e4:VK .u64 0 4294967295=0:=by decide+kernel
 have e5:IntKind.u64.wrap 0=0:=by decide
 have e6:IntKind.u64.wrap (n:Int)=n:=ii om om;refine acO M3 ?_;simp (disch:=omega) only[Im,go_sem]
 repeat' first|(apply qh;exact rvk;simp only[go_sem])|with_reducible apply aiA|exact clz|fail
 have e7:=HA hn;simp only[e0,e1,e2,e3,e4,e5,e6,e7,Int.zero_mul,Int.mul_zero,Int.one_mul,Int.add_zero];exact qi
theorem qeI(n:Nat)(h:w6)(hn:n<=1000000000):ACalls Tryz.prog 133 [.int .u64 1,.int .u64 (n:Int)] h (.tup [.int .u64 0,.int .u64 (n:Int)]) h:=by
 have c1:=λh=>qfL n h hn
 refine acO Md ?_;simp (disch:=omega) only[HU,go_sem]
 repeat' first|(refine cA (c1 _) flk ?_;simp (disch:=omega) only[go_sem])|exact wm|with_reducible apply aiA|exact clz|fail
def rpC(a:Int)(n i:Nat):w7:=gC (λj=> .int .i64 (if j<i then a else 0)) n
theorem ZI(n:Nat):zU [.int .i64 0] n=rpC 0 n 0:=by
 refine List.ext_getElem? λk=> ?_
 obtain⟨h1,h2⟩:=xy [AV.int .i64 0] n
 by_cases hk:k<n
 ·unfold rpC;rw[xr hk,ine (nnz _)]
  have:=h2 k (by simp;omega)
  rw[this,List.length_singleton,Nat.mod_one];rfl
 ·rw[List.getElem?_eq_none (by rw[h1];simp;omega),List.getElem?_eq_none (by unfold rpC;rw[kR];omega)]
theorem yp(a:Int)(n i:Nat):(rpC a n i).length=n:=by unfold rpC;rw[kR]
theorem yo{a:Int}{n i k:Nat}(hk:k<n):(rpC a n i)[k]? =some (.int .i64 (if k<i then a else 0)):=by unfold rpC;rw[xr hk]
theorem YK(a:Int){n i j:Nat}(hj:j<=i)(hi:i+j<=n):(rpC a n i).take i++(rpC a n i).take j++(rpC a n i).drop (i+j)=rpC a n (i+j):=by
 have hl:=yp a n i;have l1:((rpC a n i).take i).length=i:=by rw[List.length_take];omega
 have l2:((rpC a n i).take j).length=j:=by rw[List.length_take];omega
 refine List.ext_getElem? λk=> ?_
 by_cases hk:k<n
 ·rw[yo hk]
  by_cases g1:k<i
  ·rw[List.append_assoc,List.getElem?_append_left om,List.getElem?_take,ipo g1,yo hk,ipo g1,ipo om]
  ·rw[List.append_assoc,List.getElem?_append_right om,l1]
   by_cases g2:k-i<j
   ·rw[List.getElem?_append_left om,List.getElem?_take,ipo g2,yo om,ipo om,ipo om]
   ·rw[List.getElem?_append_right om,l2,List.getElem?_drop,show i+j+(k-i-j)=k by omega,yo hk,ine g1,ine om]
 ·rw[List.getElem?_eq_none (by simp only[lap,l1,l2,List.length_drop,hl];omega),List.getElem?_eq_none (by rw[yp];omega)]
theorem FR(a:Int){n:Nat}(hn:0<n):List.take 1 (qT [a])++List.drop 1 (rpC 0 n 0)=rpC a n 1:=by
 refine List.ext_getElem? λk=> ?_
 by_cases hk:k<n
 ·rw[yo hk];cases k with
  |zero=>rfl
  |succ k=>
   rw[List.getElem?_append_right (by simp[qT]),List.getElem?_drop];rw[show 1+(k+1-(List.take 1 (qT [a])).length)=k+1 by simp[qT];omega,yo hk,ine (nnz _),ine om]
 ·rw[List.getElem?_eq_none (by simp[qT,yp];omega),List.getElem?_eq_none (by rw[yp];omega)]
theorem FQ(a:Int)(n:Nat):rpC a n n=qT (List.replicate n a):=by
 refine List.ext_getElem? λk=> ?_
 by_cases hk:k<n
 ·rw[yo hk,ipo hk];unfold qT;rw[List.getElem?_map,List.getElem?_replicate,ipo hk];rfl
 ·rw[List.getElem?_eq_none (by rw[yp];omega),List.getElem?_eq_none (by simp[qT];omega)]
theorem qf1(a:Int)(n:Nat)(h:w6)(k:Nat)(hk:qK h k=true)(h0:0<n)(hl:n<=1000000000):
  ACalls Tryz.prog 79 [qz [a],.int .i64 (n:Int)] h (.osl k (qn (qv k h)+1) 1 0 n) (qu k h (.mem (qn (qv k h)+1) 3 (qT (List.replicate n a)))):=by
 have s1:=λh=>bS h [a]
 have c1:=λh=>qeI n h hl
 have k1:((n:Int)<0)=False:=xD;have k2:((9223372036854775807:Int)<n)=False:=xD;have z1: ∀g,valL g .len [qz [a]]= .int .i64 1:=λ_=>rfl
 have z2: ∀g,okL g .len [qz [a]]=True:=λ_=>eqt trivial
 have e5:IntKind.u64.wrap 1=1:=by decide
 have e6:IntKind.u64.wrap (n:Int)=n:=ii om om;refine bX Oc k (by simp) ?_;simp only[lco,lnl,Nat.reduceAdd,Nat.reduceSub,List.replicate,lca,lna];simp (disch:=omega) only[qbY,z1,z2,k1,e5,e6,go_sem]
 repeat' first|(refine cA (c1 _) flk ?_;simp (disch:=omega) only[s1,k2,go_sem])|(with_reducible first|intro _|apply aiA)|exact clz|fail
 ·rw[ZI,yp];exact nlr _
 ·rfl
 have e8:min 1 n=1:=by omega
 rw[e8,ZI,FR a h0];refine qp (T:=λi:Nat=>zw 48 [(7,.osl (h.length+1) 1 1 0 n),(8,.int .i64 i)]) (H:=λi=>h++ [.emp 1,.mem 1 3 (rpC a n i)])
  (inv:=λi=>0<i∧i<=n) (m:=λi=>n-i) 1 ⟨Nat.one_pos,h0⟩ (Wk.temps ?_) ?_
 ·(simp only[go_sem,qg,qc,qa,qf];try exact wr)
 rintro i ⟨i1,i2⟩ K hK;have hrl:=yp a n i
 by_cases hi:i<n
 ·have q1:((i:Int)<n)=True:=xv;have q2:(i<=n)=True:=eqt i2;simp (disch:=omega) only[q1,q2,hrl,Nat.sub_zero,Option.isSome_some,Option.getD_some,if_true,go_sem]
  repeat' first|with_reducible apply aiA|exact clz|fail
  ·rw[List.length_take,hrl];omega
  have e9:List.take (min i (n-i)) (List.take i (rpC a n i))=List.take (min i (n-i)) (rpC a n i):=by rw[List.take_take,show min (min i (n-i)) i=min i (n-i) by omega]
  rw[e9,YK a om om];refine hK _ _ (i+min i (n-i)) ⟨om,om⟩ om (Wk.temps ?_)
  (simp only[Int.natCast_add,go_sem,qg,qc,qa,qf];try exact wr)
 ·have q1:((i:Int)<n)=False:=xD;obtain rfl:i=n:=by omega
  simp (disch:=omega) only[q1,go_sem];rw[FQ];exact⟨h.length+1,1,1,0,i,3,qT (List.replicate i a),_,⟨trivial,trivial⟩,rfl,rfl,om,by simp only[go_sem],λc hc=>by
   unfold qT at hc;obtain⟨z,_,rfl⟩:=List.mem_map.1 hc
   rfl,hk,rfl,rfl⟩
end RC
end
section
open Go Go.Proofs AF
def XC:List Nat:= [80,79,82]
@[go_sem]def vC:DT:= DT.one ⟨some 78,none,.app 6 3 64 40,[.t 69,.t 77]⟩ (DT.one ⟨some 79,none,.len,[.t 78]⟩ DT.nil)
@[go_sem]def vL:DT:= DT.one ⟨some 77,none,.bslc 5 3 1 64 [i6 0,i6 0,.nl] [(0,3)],[.t 76]⟩ vC
@[go_sem]def vt:DT:= DT.one ⟨some 76,none,.build [i6 0,i6 0,.nl] [(0,1),(1,1)],[.t 72,.t 75]⟩ vL
@[go_sem]def vu:DT:= DT.one ⟨some 76,none,.build [i6 0,i6 0,.nl] [(0,1),(1,1)],[.t 72,.t 75]⟩ ((DT.one ⟨some 69,none,.call 82 false,[.t 68]⟩ vL).two (DT.one ⟨some 77,none,.bslc 5 3 1 64 [i6 0,i6
 0,.nl] [(0,3)],[.t 76]⟩ (DT.one ⟨some 69,none,.call 82 false,[.t 68]⟩ vC)))
@[go_sem]def vD:DT:= DT.one ⟨some 75,none,.len,[.t 74]⟩ vt
@[go_sem]def vy:DT:= DT.one ⟨some 74,none,.load none,[.t 73]⟩ vD
@[go_sem]def vF:DT:= DT.one ⟨some 72,none,.len,[.t 71]⟩ (DT.one ⟨some 73,none,.fldA 3,[.t 4]⟩ vy)
@[go_sem]def vG:DT:= (DT.one ⟨some 69,none,.call 82 false,[.t 68]⟩ (DT.one ⟨some 72,none,.len,[.t 71]⟩ vt)).two (DT.one ⟨some 72,none,.len,[.t 71]⟩ vu)
@[go_sem]def vH:DT:= (DT.one ⟨some 69,none,.call 82 false,[.t 68]⟩ vD).two (DT.one ⟨some 75,none,.len,[.t 74]⟩ vu)
@[go_sem]def vx:DT:= (DT.one ⟨some 69,none,.call 82 false,[.t 68]⟩ (DT.one ⟨some 72,none,.len,[.t 71]⟩ vD)).two ((DT.one ⟨some 72,none,.len,[.t 71]⟩ vH).two (DT.one ⟨some 75,none,.len,[.t 74]⟩ vG))
@[go_sem]def vA:DT:= (DT.one ⟨some 69,none,.call 82 false,[.t 68]⟩ vy).two (DT.one ⟨some 74,none,.load none,[.t 73]⟩ vH)
@[go_sem]def vE:DT:= (DT.one ⟨some 69,none,.call 82 false,[.t 68]⟩ (DT.one ⟨some 72,none,.len,[.t 71]⟩ vy)).two ((DT.one ⟨some 72,none,.len,[.t 71]⟩ vA).two (DT.one ⟨some 74,none,.load none,[.t 73]⟩
 vx))
@[go_sem]def vI:DT:= DT.one ⟨some 71,none,.load none,[.t 70]⟩ (DT.one ⟨some 72,none,.len,[.t 71]⟩ vy)
@[go_sem]def vJ:DT:= DT.one ⟨some 71,none,.load none,[.t 70]⟩ (DT.one ⟨some 72,none,.len,[.t 71]⟩ vD)
@[go_sem]def vK:DT:= DT.one ⟨some 71,none,.load none,[.t 70]⟩ (DT.one ⟨some 72,none,.len,[.t 71]⟩ vt)
@[go_sem]def vz:DT:= (DT.one ⟨some 69,none,.call 82 false,[.t 68]⟩ vK).two (DT.one ⟨some 71,none,.load none,[.t 70]⟩ vG)
@[go_sem]def vB:DT:= (DT.one ⟨some 69,none,.call 82 false,[.t 68]⟩ vJ).two ((DT.one ⟨some 71,none,.load none,[.t 70]⟩ vx).two (DT.one ⟨some 75,none,.len,[.t 74]⟩ vz))
@[go_sem]def vv:DT:= (DT.one ⟨some 69,none,.call 82 false,[.t 68]⟩ vI).two ((DT.one ⟨some 71,none,.load none,[.t 70]⟩ vE).two (DT.one ⟨some 74,none,.load none,[.t 73]⟩ vB))
def mi:C:=
 (v6 [O1 4 (.box 0 26) 0,ON 8 (.nilo 1 7 36) [],vU 9 0] ((v6 [O1 26 (.load (some 4)) 4,MV 27 1,O2 28 (.call 75 true) 26 27,MV 10 28] (v6 [MV 29 10,vV 30 .neq 29 0] (v7 30 (wa [MV
 31 10,ON 8 (.nilo 1 7 36) [],MV 9 31])))).seq ((v6 [MV 32 3,vV 33 .lss 32 0,MV 34 33,vY 35 34 3,wh 36 34 1 4,wi 37 34 36,vW 38 34 .len 37,vX 39 34 (.bin .geq) 35 38,PT 40 34
 39] (v7 40 (wa [ON 8 (.nilo 1 7 36) [],vU 9 2]))).seq (v6 [O1 42 (.load (some 4)) 4,MV 43 1,MV 44 2,ON 45 (.call 78 true) [.t 42,.t 43,.t 44],MV 41 45,O1 46 (.ext 0) 41,O1 47
 (.ext 1) 41,MV 11 46,MV 12 47] ((v6 [MV 48 12,vV 49 .neq 48 0] (v7 49 (wa [MV 50 12,ON 8 (.nilo 1 7 36) [],MV 9 50]))).seq (v6 [⟨some 51,none,.bslc 2 1 1 3 [i6 0] [(0,1)],[.c
 (i6 (-1))]⟩,MV 52 1,O1 53 .len 52,O2 54 (.call 79 false) 51 53,MV 13 54] ((v6 [MV 55 11,O1 56 .len 55,vU 57 0] (C.block 0 (v6 [BI 58 .lss 57 56] ((v8 58 0).seq ((C.block 1 (v6
 [MV 59 57,O2 60 (.idxA 1) 55 57,LD 61 60,MV 14 59,MV 15 61] (wc [MV 62 13,MV 63 15,MV 64 14,O2 65 (.idxA 1) 62 63,ST 1 65 64]))).seq (wc [vV 66 .add 57 1,MV 57
 66])))).loop)).seq (v6 [⟨some 16,none,.alloc 3 29 [.nl],[]⟩] ((C.wk.seq (wc [O1 67 (.mkfn (Fn.func 80) 0) 16,⟨some 17,none,.alloc 4 121 [.nilfn],[]⟩,ST 1 17 67])).seq (v6 [vU
 18 0] (((C.draw (DT.one ⟨some 68,none,.mv,[.t 1]⟩ (DT.one ⟨some 80,none,.mv,[.c (i6 0)]⟩ ((DT.one ⟨some 69,none,.call 82 false,[.t 68]⟩ (DT.one ⟨some 70,none,.fldA 3,[.t 4]⟩
 (DT.one ⟨some 71,none,.load none,[.t 70]⟩ vF))).two ((DT.one ⟨some 70,none,.fldA 3,[.t 4]⟩ ((DT.one ⟨some 69,none,.call 82 false,[.t 68]⟩ (DT.one ⟨some 71,none,.load none,[.t
 70]⟩ vF)).two ((DT.one ⟨some 71,none,.load none,[.t 70]⟩ ((DT.one ⟨some 69,none,.call 82 false,[.t 68]⟩ vF).two ((DT.one ⟨some 72,none,.len,[.t 71]⟩ ((DT.one ⟨some
 69,none,.call 82 false,[.t 68]⟩ (DT.one ⟨some 73,none,.fldA 3,[.t 4]⟩ vy)).two (DT.one ⟨some 73,none,.fldA 3,[.t 4]⟩ vA))).two (DT.one ⟨some 73,none,.fldA 3,[.t 4]⟩ vE)))).two
 (DT.one ⟨some 73,none,.fldA 3,[.t 4]⟩ vv)))).two (DT.one ⟨some 73,none,.fldA 3,[.t 4]⟩ ((DT.one ⟨some 69,none,.call 82 false,[.t 68]⟩ (DT.one ⟨some 70,none,.fldA 3,[.t 4]⟩
 vI)).two ((DT.one ⟨some 70,none,.fldA 3,[.t 4]⟩ vv).two (DT.one ⟨some 74,none,.load none,[.t 73]⟩ ((DT.one ⟨some 69,none,.call 82 false,[.t 68]⟩ (DT.one ⟨some 70,none,.fldA
 3,[.t 4]⟩ vJ)).two ((DT.one ⟨some 70,none,.fldA 3,[.t 4]⟩ vB).two (DT.one ⟨some 75,none,.len,[.t 74]⟩ ((DT.one ⟨some 69,none,.call 82 false,[.t 68]⟩ (DT.one ⟨some 70,none,.fldA
 3,[.t 4]⟩ vK)).two (DT.one ⟨some 70,none,.fldA 3,[.t 4]⟩ vz)))))))))))))).seq (C.block 2 (v6 [BI 81 .lss 80 79] ((v8 81 2).seq ((C.block 3 (v6 [MV 82 80,O2 83 (.idxA 3) 78
 80,O1 84 (.load (some 3)) 83,⟨some 19,none,.alloc 7 3 [i6 0],[]⟩,⟨some 20,none,.alloc 8 64 [i6 0,i6 0,.nl],[]⟩,ST 1 19 82,ST 3 20 84] ((v6 [O1 85 (.load (some 4)) 4,MV 86 18,vT
 87 0 20,LD 88 87,MV 89 3,ON 90 (.call 83 true) [.t 85,.t 86,.t 88,.t 89]] (C.block 4 (C.range (.t 90) [91] (wc [⟨some 21,none,.alloc 9 120 [.str [],.str [],.str [],i6 0,i6
 0,.str [],i6 0],[]⟩,ST 7 21 91]) (C.block 5 (wc [LD 92 17,O1 93 (.load (some 7)) 21,ON 94 .callv [.t 92,.t 93,.c (i6 (-1)),.c (i6 (-1))]]))))).seq (v6 [vT 95 1 20,LD 96 95,MV
 18 96] (C.block 6 (v6 [LD 127 19,MV 128 1,O1 129 .len 128,BI 130 .eql 127 129,MV 126 130] (C.cond (.t 126) C.skip (v6 [MV 132 13,LD 133 19,O2 134 (.idxA 1) 132 133,LD 135
 134,vV 136 .lss 135 0,MV 131 136] (C.cond (.t 131) (v6 [O1 137 (.load (some 4)) 4,vT 138 0 20,LD 139 138,vT 140 1 20,LD 141 140,MV 142 3,ON 143 (.call 83 true) [.t 137,.t
 139,.t 141,.t 142]] (C.block 9 (C.range (.t 143) [144] (wc [⟨some 22,none,.alloc 10 120 [.str [],.str [],.str [],i6 0,i6 0,.str [],i6 0],[]⟩,ST 7 22 144]) (C.block 10 (wc [LD
 145 17,O1 146 (.load (some 7)) 22,LD 147 19,ON 148 .callv [.t 145,.t 146,.t 147,.c (i6 (-1))]]))))) (v6 [MV 97 2,MV 98 13,LD 99 19,O2 100 (.idxA 1) 98 99,LD 101 100,O2 102
 (.idxA 4) 97 101,O1 103 (.load (some 4)) 102,⟨some 23,none,.alloc 11 43 [i6 0,.str [],i6 0,.str []],[]⟩,ST 4 23 103] ((C.draw (DT.uni ⟨some 104,none,.call 84 true,[]⟩ (DT.one
 ⟨some 105,none,.fldA 0,[.t 23]⟩ (DT.one ⟨some 106,none,.load none,[.t 105]⟩ (DT.one ⟨some 107,none,.aidx 4 1 none,[.t 104,.t 106]⟩ (DT.one ⟨some 108,none,.load (some 4),[.t 4]⟩
 (DT.one ⟨some 109,none,.load (some 3),[.t 20]⟩ (DT.one ⟨some 110,none,.load (some 4),[.t 23]⟩ (DT.uni ⟨some 111,none,.callv,[.t 107,.t 108,.t 109,.t 110]⟩ (DT.one ⟨some
 112,none,.len,[.t 111]⟩ (DT.one ⟨some 113,none,.mv,[.c (i6 0)]⟩ DT.nil))))))))))).seq (C.block 7 (v6 [BI 114 .lss 113 112] ((v8 114 7).seq ((C.block 8 (v6 [O2 115 (.idxA 7) 111
 113,O1 116 (.load (some 7)) 115,⟨some 25,none,.alloc 12 120 [.str [],.str [],.str [],i6 0,i6 0,.str [],i6 0],[]⟩,ST 7 25 116] (wc [LD 117 17,O1 118 (.load (some 7)) 25,LD 119
 19,MV 120 13,LD 121 19,O2 122 (.idxA 1) 120 121,LD 123 122,ON 124 .callv [.t 117,.t 118,.t 119,.t 123]]))).seq (wc [vV 125 .add 113 1,MV 113 125])))).loop)))))))))))).seq (wc
 [vV 149 .add 80 1,MV 80 149])))).loop)).seq ((v6 [LD 150 16,O1 151 .len 150,vV 152 .gtr 151 1024] (v7 152 (wa [ON 8 (.nilo 1 7 36) [],vU 9 4]))).seq (wa [LD 153 16,MV 8 153,vU
 9 0])))))))))))))
theorem yj:qN Tryz.prog 25 154 16 [RV.tmp 8,RV.tmp 9] mi:=fi Tryz.f25 [4,8,51,16,17,77,78,19,20,21,22,23,25,54,69,10] XC [16]
end
