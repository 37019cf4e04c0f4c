import Derived.Test.YtmieflnoheifbaaGreatDoorK11
import Derived.Test.YtmieflnoheifbaaGreatDoorK10
import Derived.Test.YtmieflnoheifbaaGreatDoorK9
import Derived.Test.YtmieflnoheifbaaGreatDoorK3
import Derived.Test.YtmieflnoheifbaaGreatDoorK5
import Derived.Test.YtmieflnoheifbaaGreatDoorK8
import Derived.Test.YtmieflnoheifbaaGreatDoorProg
import Derived.Test.YtmieflnoheifbaaGreatDoorK7
import Derived.Lib.IndexMore
import Derived.Lib.CountLaws
import Derived.Laws.Strings3
set_option linter.all false
set_option maxHeartbeats 128000000
set_option maxRecDepth 100000
section
open Go Go.Proofs AF HY LN
namespace RC
def rnX(x:Co):List JT:=(bz (cmB x) x.col.length).map λr=> [.int .i64 (r.1:Int),.int .i64 (r.2:Int)]
theorem RL(x:Co)(h:JN):ACalls Tryz.prog 62 [.agg (coC x)] h (.fn (.func 139) [] [.ip (coC x)]) h:=by
 unfold coC;refine acO Ou ?_;simp (disch:=omega) only[Rn,go_sem]
 repeat' first|exact tF|fail
theorem TJ(u:Un)(f t:Int)(h:JN):ACalls Tryz.prog 226 [.agg (unC u),.ip [.int .i64 f],.ip [.int .i64 t]] h (.bool (decide (u.frm<=f)&&decide (t<=u.to))) h:=by
 by_cases g:u.frm<=f
 ·have k1:(u.frm<=f)=True:=eqt g;rw[dqt g,Bool.true_and];refine acO Xc ?_;simp (disch:=omega) only[Yl,unC,k1,go_sem]
  repeat' first|exact tF|with_reducible apply aiA|exact clz|fail
 ·have k1:(u.frm<=f)=False:=eqf g;rw[dqf g,Bool.false_and];refine acO Xc ?_;simp (disch:=omega) only[Yl,unC,k1,go_sem]
  repeat' first|exact tF|with_reducible apply aiA|exact clz|fail
theorem Iy{p:Nat->Bool}{n f t:Nat}(h1:f<=t)(h2:t<=n)(h3: ∀j,f<=j->j<t->p j=false)(h4:t<n->p t=true):nxt p (n-f) f=t:=by
 obtain⟨a1,a2,a3,a4⟩:=lI p (n-f) f;rcases Nat.lt_trichotomy (nxt p (n-f) f) t with h|h|h
 ·have:=a4 oma
  rw[h3 _ a1 h]at this;cases this
 ·exact h
 ·have:=h4 oma
  rw[a3 t h1 h]at this;cases this
theorem I0{x:Co}{pre rest:List (Nat×Nat)}{r:Nat×Nat}(h:bz (cmB x) x.col.length=pre++r::rest): ∃g:pre.length<(rnX x).length,(rnX x)[pre.length]= [.int .i64 (r.1:Int),.int .i64 (r.2:Int)]:=by
 unfold rnX;refine⟨by rw[h];simp,?_⟩;simp only[h,List.getElem_map];rw[List.getElem_append_right (nlr _)];simp
structure RnS where
 f:Nat
 D:Nat
 pre:List (Nat×Nat)
 hh:JN
theorem itR(x:Co)(ho:CoOk x)(hn:x.col.length<=1000000000):pd Tryz.prog 139 [.ip (coC x)] (rnX x):=by
 intro h ts LI S E hS hE body start hts;have hcom:=λk h hk=>cmP (x:=x) (k:=k) h ho hk
 obtain⟨p,hp⟩:=Qt (cmB x)
 have hxl:(rnX x).length=(bz p x.col.length).length:=by rw[hp];simp[rnX]
 have hat:= @I0 x;rw[<-hp]at hat;rw[<-hp]at hcom;refine acQ Ge ?_;simp (disch:=omega) only[D2,coC,go_sem];refine qr (T:=λi:RnS=>qY 36 [(0,.yld h.length),(1,.ip (coC x)),(3,.int .i64 i.f)]) (H:=λi=>i.hh++ [.lp .ready ts LI])
  (inv:=λi=>i.f<=x.col.length+1∧x.col.length-i.f<i.D∧bz p x.col.length=i.pre++kE p x.col.length i.D i.f∧S i.pre.length i.hh) (m:=λi=>x.col.length+1-i.f) ⟨0,x.col.length+1,[],h⟩ ⟨nzl _,by simp only;omega,rfl,start⟩ (Wk.temps ?_) ?_
 ·(simp only[coC,go_sem,qg,qc,qf];try exact tT)
 rintro⟨f,D,pre,hh⟩ ⟨i1,i2,i3,i4⟩ K hK;simp only at i1 i2 i3 i4 hK;obtain⟨hlen,hlow⟩:=hS _ _ i4;have hb:(h++ [AObj.lp LS.ready ts LI]).length=(hh++ [AObj.lp LS.ready ts LI]).length:=by simp[hlen]
 by_cases hi:f<x.col.length
 ·have q0:((f:Int)<x.col.length)=True:=eqt oma;obtain⟨D',rfl⟩: ∃D',D=D'+1:=⟨D-1,oma⟩
  have hD:kE p x.col.length (D'+1) f=(if f<nxt p (x.col.length-f) f then [(f,nxt p (x.col.length-f) f)] else [])++kE p x.col.length D' (nxt p (x.col.length-f) f+1):=by
   conv=>lhs;unfold kE
   rw[ine oma]
  simp (disch:=omega) only[coC,qn,q0,go_sem]
  repeat' first|with_reducible apply aiA|exact clz|fail
  refine qr (T:=λt:Nat=>qY 36 [(0,.yld h.length),(1,.ip (coC x)),(3,.int .i64 f),(4,.int .i64 t)]) (H:=λ_=>hh++ [.lp .ready ts LI])
   (inv:=λt=>f<=t∧t<=x.col.length∧ ∀j,f<=j->j<t->p j=false) (m:=λt=>x.col.length-t) f ⟨nlr _,oma,λj h1 h2=>by omega⟩ (Wk.temps ?_) ?_
  ·(simp only[coC,go_sem,qg,qc,qb,qf];try exact tT)
  rintro t ⟨t1,t2,t3⟩ K2 hK2;have fin:(t<x.col.length->p t=true)->kE p x.col.length (D'+1) f=(if f<t then [(f,t)] else [])++kE p x.col.length D' (t+1):=λh4=>by
   rw[hD,Iy t1 t2 t3 h4]
  have hend: ∀hh',kE p x.col.length (D'+1) f=(if f<t then [(f,t)] else [])++kE p x.col.length D' (t+1)->S (pre++if f<t then [(f,t)] else []).length hh'->bz p x.col.length=(pre++if f<t then [(f,t)] else [])++kE p x.col.length D' (t+1):=λhh' h1 _=>by
   rw[i3,h1,List.append_assoc]
  by_cases ht:t<x.col.length
  ·have q1:((t:Int)<x.col.length)=True:=eqt oma;have c1:=λh=>hcom t h ht
   cases hpt:p t with
   |false=>
    rw[hpt]at c1;unfold coC qn at c1;simp (disch:=omega) only[coC,qn,q1,go_sem]
    repeat' first|(refine cG (λe=>c1 _) flk ?_;simp (disch:=omega) only[go_sem])|with_reducible apply aiA|exact clz|fail
    refine hK2 _ _ (t+1) ⟨oma,ht,λj h1 h2=> ?_⟩ oma (Wk.temps ?_)
    ·by_cases e:j=t
     ·subst e;exact hpt
     ·exact t3 j h1 oma
    ·(simp only[coC,go_sem,qg,qc,qb,qf];try exact tT)
   |true=>
    rw[hpt]at c1;have hf:=fin λ_=>hpt
    unfold coC qn at c1
    by_cases gt:f<t
    ·have q2:((f:Int)<t)=True:=eqt oma;rw[ipo gt]at hf;rw[hf]at i3;obtain⟨hdl,hxx⟩:=hat (pre:=pre) (r:=(f,t)) (rest:=kE p x.col.length D' (t+1)) i3;have hb':=body pre.length hh [] hdl i4;rw[hxx]at hb';have i5:bz p x.col.length=(pre++ [(f,t)])++kE p x.col.length D' (t+1):=by rw[i3];simp
     simp (disch:=omega) only[coC,qn,q1,go_sem]
     repeat' first|(refine cG (λe=>c1 _) flk ?_;simp (disch:=omega) only[q2,go_sem])|with_reducible apply aiA|exact clz|fail
     ·exact⟨.ready,ts,LI,ko hlen⟩
     ·refine jQ.mono ?_ hb';rintro v h' ⟨hh',⟨rfl,hn',rfl⟩|⟨st,rfl,hs',rfl⟩⟩
      ·simp (disch:=omega) only[go_sem];refine hK _ _ ⟨t+1,D',pre++ [(f,t)],hh'⟩ ⟨by simp only;omega,by simp only;omega,i5,by simp only[lap,lco,lnl];exact hn'⟩ (by simp only;omega) (Wk.temps ?_)
       (simp only[coC,go_sem,qg,qc,qb,qf];try exact tT)
      ·simp (disch:=omega) only[go_sem];obtain⟨r1,r2⟩:=(hE _ _ hs').ret (L:=LI) st hts;exact jA trivial r1 r2 ⟨_,.inr ⟨st,hs',rfl⟩⟩ (qi)
    ·have q2:((f:Int)<t)=False:=eqf oma;rw[ine gt,lna]at hf;rw[hf]at i3;simp (disch:=omega) only[coC,qn,q1,go_sem]
     repeat' first|(refine cG (λe=>c1 _) flk ?_;simp (disch:=omega) only[q2,go_sem])|with_reducible apply aiA|exact clz|fail
     refine hK _ _ ⟨t+1,D',pre,hh⟩ ⟨by simp only;omega,by simp only;omega,i3,i4⟩ (by simp only;omega) (Wk.temps ?_)
     (simp only[coC,go_sem,qg,qc,qb,qf];try exact tT)
  ·have q1:((t:Int)<x.col.length)=False:=eqf oma;have hf:=fin λhx=>absurd hx ht
   by_cases gt:f<t
   ·have q2:((f:Int)<t)=True:=eqt oma;rw[ipo gt]at hf;rw[hf]at i3;obtain⟨hdl,hxx⟩:=hat (pre:=pre) (r:=(f,t)) (rest:=kE p x.col.length D' (t+1)) i3;have hb':=body pre.length hh [] hdl i4;rw[hxx]at hb';have i5:bz p x.col.length=(pre++ [(f,t)])++kE p x.col.length D' (t+1):=by rw[i3];simp
    simp (disch:=omega) only[coC,qn,q1,go_sem]
    repeat' first|(refine qj ( .bool false) ?_;simp (disch:=omega) only[q2,go_sem])|with_reducible apply aiA|exact clz|fail
    ·exact⟨.ready,ts,LI,ko hlen⟩
    ·refine jQ.mono ?_ hb';rintro v h' ⟨hh',⟨rfl,hn',rfl⟩|⟨st,rfl,hs',rfl⟩⟩
     ·simp (disch:=omega) only[go_sem];refine hK _ _ ⟨t+1,D',pre++ [(f,t)],hh'⟩ ⟨by simp only;omega,by simp only;omega,i5,by simp only[lap,lco,lnl];exact hn'⟩ (by simp only;omega) (Wk.temps ?_)
      (simp only[coC,go_sem,qg,qc,qb,qf];try exact tT)
     ·simp (disch:=omega) only[go_sem];obtain⟨r1,r2⟩:=(hE _ _ hs').ret (L:=LI) st hts;exact jA trivial r1 r2 ⟨_,.inr ⟨st,hs',rfl⟩⟩ (qi)
   ·exact absurd (show f<t by omega) gt
 ·have q0:((f:Int)<x.col.length)=False:=eqf oma;have hD:kE p x.col.length D f= []:=by
   cases D with
   |zero=>rfl
   |succ D=>unfold kE;rw[ipo oma]
  rw[hD,lan]at i3;simp (disch:=omega) only[coC,qn,q0,go_sem]
  repeat' first|with_reducible apply aiA|exact clz|fail
  obtain⟨r1,r2⟩:=(hS _ _ i4).ret (L:=LI) .ready hts;exact jA trivial r1 r2 ⟨hh,.inl ⟨by rw[hxl,i3];exact i4,rfl⟩⟩ (qi)
structure aM (l:List Un):Prop where
 n:l.length<=1000000000
 rd: ∀i,(l.getD i default).rds.length<=1000000000
 sr: ∀i j,((l.getD i default).rds.getD j default).src.length<=1000000000
 wd: ∀i j,((l.getD i default).rds.getD j default).words.length<=1000000000
structure WL (L:List Rd):Prop where
 n:L.length<=1000000000
 sr: ∀j,(L.getD j default).src.length<=1000000000
 wd: ∀j,(L.getD j default).words.length<=1000000000
theorem Nb(a b:List Str)(h:JN)(h1:a.length<=1000000000)(h2:b.length<=1000000000):ACalls Tryz.prog 18 [strs a,strs b] h (.bool (decide (a=b))) h:=by
 have c:=N7 a b.length (λj=>b.getD j []) h h1 h2;have e:decide (a.length=b.length∧ ∀i,i<a.length->a.getD i []=b.getD i [])=decide (a=b):=decide_eq_decide.2 (wI ([]:Str)).symm;rw[e]at c;exact c
theorem SK(a b:List Int)(h:JN)(h1:a.length<=1000000000)(h2:b.length<=1000000000):ACalls Tryz.prog 30 [qx a,qx b] h (.bool (decide (a=b))) h:=by
 have c:=Na Hm a.length b.length (λj=> .i (a.getD j 0)) (λj=> .i (b.getD j 0)) h (λ_ _ _=>rfl) oma oma;simp only[At.v,At.i.injEq]at c;have e:decide (a.length=b.length∧ ∀i,i<a.length->a.getD i 0=b.getD i 0)=decide (a=b):=decide_eq_decide.2 (wI (0:Int)).symm;rw[e]at c;exact c
theorem Pq{r s:Rd}:r=s↔r.words=s.words∧r.src=s.src:=by
 cases r;cases s;simp
theorem TP(r s:Rd)(h:JN)(h1:r.words.length<=1000000000)(h2:s.words.length<=1000000000)(h3:r.src.length<=1000000000)(h4:s.src.length<=1000000000):ACalls Tryz.prog 292 [.agg (rdC r),.agg (rdC s)] h (.bool (decide (r=s))) h:=by
 have c1:=λh=>Nb r.words s.words h h1 h2
 have c2:=λh=>SK r.src s.src h h3 h4
 have e:decide (r=s)=(decide (r.words=s.words)&&decide (r.src=s.src)):=by rw[<-Bool.decide_and];exact decide_eq_decide.2 Pq
 rw[e];obtain⟨a,ha⟩:=Qt (decide (r.words=s.words))
 obtain⟨b,hb⟩:=Qt (decide (r.src=s.src))
 rw[<-ha,<-hb];simp only[<-ha]at c1;simp only[<-hb]at c2;cases a with
 |true=>
  rw[Bool.true_and];refine acO Xi ?_;simp (disch:=omega) only[Yq,rdC,go_sem]
  repeat' first|((first|refine cA (c1 _) ?_ ?_|refine cG (λe=>c2 _) ?_ ?_);exact flk;simp (disch:=omega) only[go_sem])|exact tF|with_reducible apply aiA|exact clz|fail
 |false=>
  rw[Bool.false_and];refine acO Xi ?_;simp (disch:=omega) only[Yq,rdC,go_sem]
  repeat' first|(refine qj ( .bool false) ?_;simp (disch:=omega) only[go_sem])|(refine cA (c1 _) flk ?_;simp (disch:=omega) only[go_sem])|exact tF|fail
theorem efP(a b:List Rd)(h:JN)(za:WL a)(zb:WL b):ACalls Tryz.prog 291 [jM a,jM b,.fn (.func 292) [] []] h (.bool (decide (a=b))) h:=by
 have ha:=za.n;have hb:=zb.n;have he:decide (a=b)=decide (a.length=b.length∧ ∀i,i<a.length->a.getD i default=b.getD i default):=decide_eq_decide.2 (wI (default:Rd));obtain⟨R,hR⟩:=Qt (decide (a=b))
 rw[<-hR]at he ⊢
 by_cases g:a.length=b.length
 case neg=>
  have k1:((a.length:Int)=b.length)=False:=eqf oma;rw[dqf (λhc=>g hc.1)]at he;rw[he];refine acO Xh ?_;simp (disch:=omega) only[Yp,jM,k1,go_sem]
  repeat' first|exact tF|fail
 have k1:((a.length:Int)=b.length)=True:=eqt oma;refine acO Xh ?_;simp (disch:=omega) only[Yp,jM,k1,go_sem];refine qr (T:=λi:Nat×AObj×AObj=>qY 32 [(1,jM b),(2,.fn (.func 292) [] []),(15,jM a),(16,.int .i64 a.length),(17,.int .i64 i.1)]) (H:=λi=>h++ [i.2.1,i.2.2])
  (inv:=λi=>i.1<=a.length∧qG [i.2.1] 0=true∧qG [i.2.2] 0=true∧ ∀j,j<i.1->a.getD j default=b.getD j default) (m:=λi=>a.length-i.1) (0,.emp 0,.emp 0) ⟨nzl _,rfl,rfl,λj hj=>absurd hj (nnz j)⟩ (Wk.temps ?_) ?_
 ·(simp only[jM,go_sem,qg,qc,qb,qf];try exact tT)
 rintro⟨i,O1,O2⟩ ⟨i1,j1,j2,i2⟩ K hK;simp only at i1 j1 j2 i2 hK;have j1': ∀m,qG (O1::m) 0=true:=λ_=>j1
 have j2': ∀m,qG (O2::m) 0=true:=λ_=>j2
 by_cases hi:i<a.length
 ·have k2:((i:Int)<a.length)=True:=eqt oma;have k3:((i:Int)<b.length)=True:=eqt oma;have c1:=λh=>TP (a.getD i default) (b.getD i default) h (za.wd i) (zb.wd i) (za.sr i) (zb.sr i)
  have hno: ¬a.getD i default=b.getD i default->R=false:=λhx=>by rw[he];exact dqf λhc=>hx (hc.2 i hi)
  have hS:a.getD i default=b.getD i default-> ∀j,j<i+1->a.getD j default=b.getD j default:=λhx j hj=>by
   by_cases e:j=i
   ·subst e;exact hx
   ·exact i2 j oma
  obtain⟨r,hr⟩:=Qt (a.getD i default)
  obtain⟨s,hs⟩:=Qt (b.getD i default)
  have er:=hr.symm;have es:=hs.symm;rw[er,es]at hno hS;simp only[er,es]at c1;unfold rdC at c1
  by_cases g2:r=s
  ·have k4:decide (r=s)=true:=dqt g2;simp only[k4]at c1;simp (disch:=omega) only[jM,rdC,k2,k3,er,es,j1',j2',go_sem]
   repeat' first|(refine qz (c1 _) ?_;simp (disch:=omega) only[go_sem])|with_reducible apply aiA|exact clz|fail
   refine hK _ _ (i+1,_,_) ⟨hi,rfl,rfl,hS g2⟩ (by simp only;omega) (Wk.temps ?_)
   (simp only[jM,go_sem,qg,qc,qb,qf];try exact tT)
  ·have k4:decide (r=s)=false:=dqf g2;simp only[k4]at c1;rw[hno g2];simp (disch:=omega) only[jM,rdC,k2,k3,er,es,j1',j2',go_sem]
   repeat' first|(refine qz (c1 _) ?_;simp (disch:=omega) only[go_sem])|exact tF|with_reducible apply aiA|exact clz|fail
 ·have k2:((i:Int)<a.length)=False:=eqf oma;rw[he,dqt ⟨g,λj hj=>i2 j oma⟩];simp (disch:=omega) only[jM,k2,go_sem]
  repeat' first|exact tF|fail
theorem TQ(a b:List Rd)(h:JN)(za:WL a)(zb:WL b):ACalls Tryz.prog 225 [jM a,jM b] h (.bool (decide (a=b))) h:=by
 have c1:=λh=>efP a b h za zb
 refine acO GU ?_;simp (disch:=omega) only[ED,go_sem]
 repeat' first|(refine cA (c1 _) flk ?_;simp (disch:=omega) only[go_sem])|exact tS|fail
theorem TG(r s:Rd)(h:JN)(h1:r.words.length<=1000000000)(h2:s.words.length<=1000000000):ACalls Tryz.prog 143 [.agg (rdC r),.agg (rdC s)] h (.bool (decide (r.words=s.words))) h:=by
 have c1:=λh=>Nb r.words s.words h h1 h2
 refine acO Gi ?_;simp (disch:=omega) only[D7,rdC,go_sem]
 repeat' first|(refine cA (c1 _) flk ?_;simp (disch:=omega) only[go_sem])|exact tF|fail
theorem fd1(r y:Rd)(h:JN)(h1:r.words.length<=1000000000)(h2:y.words.length<=1000000000):ACalls Tryz.prog 216 [.agg (rdC y),.ip [.fn (.func 143) [] []],.ip (rdC r)] h (.bool (decide (r.words=y.words))) h:=by
 have c1:=λh=>TG r y h h1 h2
 unfold rdC at c1;refine acO GL ?_;simp (disch:=omega) only[Et,rdC,go_sem]
 repeat' first|(refine qz (c1 _) ?_;simp (disch:=omega) only[go_sem])|exact tF|with_reducible apply aiA|exact clz|fail
theorem fdP(L:List Rd)(r:Rd)(h:JN)(hL:L.length<=1000000000)(h1:r.words.length<=1000000000)(h2: ∀j,(L.getD j default).words.length<=1000000000):ACalls Tryz.prog 142 [jM L,.agg (rdC r),.fn (.func 143) [] []] h (.int .i64 (lM L r.words)) h:=by
 have c1: ∀k v k2 v2 H,qu k H=some (.mem v 152 (rdC r))->qu k2 H=some (.mem v2 218 [.fn (.func 143) [] []])->
   ACalls Tryz.prog 91 [jM L,.fn (.func 216) [] [.op k2 v2 0,.op k v 0]] H (.int .i64 (lM L r.words)) H:=λk v k2 v2 H hk hk2=>by
  have hc:=qJ hk;have hc2:=qJ hk2;unfold jM lM;refine y4 Ac L.length (λj=>rdC (L.getD j default)) (λj=> .agg (rdC (L.getD j default))) _ [] [.op k2 v2 0,.op k v 0] _ H (λi _=>⟨rfl,by simp[jK,rdC],rfl,rfl,rfl⟩) (λi _=> ?_) oma;refine ACalls.borrow ?_ rfl;have e:([AV.agg (rdC (L.getD i default))]++ [AV.op k2 v2 0,AV.op k v 0]).map (rei (λ_=>true) H 8)= [.agg (rdC (L.getD i default)),.ip [.fn (.func 143) [] []],.ip (rdC r)]:=by
   simp only[lca,lna,List.map_cons,List.map_nil,rei_op,if_true,hc,hc2,ipOf_some,List.drop_zero,rei_agg];rfl
  rw[lna,e];exact fd1 r _ _ h1 (h2 i)
 have c2:=c1 h.length 1 (h.length+1) 1 (h++ [.mem 1 152 (rdC r),.mem 1 218 [.fn (.func 143) [] []]]) (by rw[getO_app0];rfl) (by simp only[go_sem]);unfold rdC at c2;refine acO Gh ?_;simp (disch:=omega) only[D6,rdC,go_sem]
 repeat' first|(refine cA (c2) flk ?_;simp (disch:=omega) only[go_sem])|exact tF|fail
def gnB(sec:Str)(sig:List Str):Bool:=jm (λi=>decide (20<(sig.getD i []).length)) sig.length||decide (20<sec.length)
theorem gnP(sec:Str)(sig:List Str)(h:JN)(hn:sig.length<=9223372036854775807):ACalls Tryz.prog 59 [.str sec,strs sig] h (.bool (gnB sec sig)) h:=by
 obtain⟨R,hR⟩:=Qt (gnB sec sig)
 rw[<-hR];unfold gnB at hR;refine acO Oq ?_;simp (disch:=omega) only[Rl,strs,go_sem];refine qr (T:=λi:Nat=>qY 21 [(0,.str sec),(1,strs sig),(5,.int .i64 i)]) (H:=λ_=>h) (inv:=λi=>i<=sig.length∧ ∀j,j<i->(λi=>decide (20<(sig.getD i []).length)) j=false) (m:=λi=>sig.length-i) 0 ⟨nzl _,λj hj=>absurd hj (nnz j)⟩ (Wk.temps ?_) ?_
 ·(simp only[strs,go_sem,qg,qc,qb,qf];try exact tT)
 rintro i ⟨i1,i2⟩ K hK
 by_cases hi:i<sig.length
 ·have k1:((i:Int)<sig.length)=True:=eqt oma
  by_cases g:20<(sig.getD i []).length
  ·have hV:R=true:=by rw[hR,qP.2 ⟨i,hi,dqt g⟩];rfl
   obtain⟨s,hs⟩:=Qt (sig.getD i [])
   have es:=hs.symm;rw[es]at g;have k2:((20:Int)<s.length)=True:=eqt oma;rw[hV];simp (disch:=omega) only[strs,k1,k2,es,go_sem]
   repeat' first|exact tS|with_reducible apply aiA|exact clz|fail
  ·have i3:=wQ i2 (dqf g);obtain⟨s,hs⟩:=Qt (sig.getD i [])
   have es:=hs.symm;rw[es]at g;have k2:((20:Int)<s.length)=False:=eqf oma;simp (disch:=omega) only[strs,k1,k2,es,go_sem]
   repeat' first|with_reducible apply aiA|exact clz|fail
   refine hK _ _ (i+1) ⟨hi,i3⟩ oma (Wk.temps ?_)
   (simp only[strs,go_sem,qg,qc,qb,qf];try exact tT)
 have k1:((i:Int)<sig.length)=False:=eqf oma;rw[qq.2 (λj hj=>i2 j oma),Bool.false_or]at hR;have e1:decide ((20:Int)<sec.length)=decide (20<sec.length):=decide_eq_decide.2 oma;rw[hR,<-e1];simp (disch:=omega) only[strs,k1,go_sem]
 repeat' first|exact tS|fail
def xW(t:Tk):Bool:=decide (12<t.text.length)||(decide (12<t.norm.length)||(decide (20<t.page.length)||decide (20<t.name.length)))
def aB(i:Nat)(r:List Tk):Bool:=decide (6<r.length)||((decide (4<=i)&&decide (1<r.length))||jm (λk=>xW (r.getD k default)) r.length)
def prN(L:List (List Tk)):Nat->Nat
 |0=>1
 |i+1=>if i<4 then prN L i*((L.getD i []).length+1) else prN L i
def gtB(L:List (List Tk)):Bool:=jm (λi=>aB i (L.getD i [])) L.length||(decide (400<prN L L.length)||((decide (6<L.length)&&decide (L.length<=32))||decide (34<L.length)))
theorem IK{L:List (List Tk)}: ∀ {n:Nat},(∀i,i<n->(L.getD i []).length<=6)->prN L n<=7^min n 4:=by
 intro n
 induction n with
 |zero=>intro _;exact nlr _
 |succ n ih=>
  intro h;have h1:=ih λi hi=>h i oma
  have h2:=h n oma;unfold prN;split
  ·rename_i g;rw[show min n 4=n by omega]at h1;rw[show min (n+1) 4=n+1 by omega,Nat.pow_succ];exact Nat.mul_le_mul h1 oma
  ·rename_i g;rw[show min n 4=4 by omega]at h1;rw[show min (n+1) 4=4 by omega];exact h1
theorem gtP(L:List (List Tk))(h:JN)(hn:L.length<=9223372036854775807):ACalls Tryz.prog 58 [qm L] h (.bool (gtB L)) h:=by
 obtain⟨R,hR⟩:=Qt (gtB L)
 rw[<-hR];unfold gtB at hR;refine acO Oo ?_;simp (disch:=omega) only[Rk,qm,go_sem];refine qr (T:=λi:Nat×AObj=>qY 97 [(0,qm L),(3,.int .i64 (prN L i.1:Int)),(4,.int .i64 i.1)]) (H:=λi=>h++ [i.2]) (inv:=λi=>i.1<=L.length∧qG [i.2] 0=true∧ ∀j,j<i.1->(λi=>aB i (L.getD i [])) j=false) (m:=λi=>L.length-i.1) (0,.emp 0) ⟨nzl _,rfl,λj hj=>absurd hj (nnz j)⟩ (Wk.temps ?_) ?_
 ·(simp only[qm,prN,go_sem,qg,qc,qb,qf];try exact tT)
 rintro⟨i,O⟩ ⟨i1,i2,i3⟩ K hK;simp only at i1 i2 i3 hK;have i2': ∀m,qG (O::m) 0=true:=λ_=>i2
 have h6: ∀j,j<i->(L.getD j []).length<=6:=λj hj=>by
  have:=i3 j hj
  unfold aB at this;simp only[Bool.or_eq_false_iff,decide_eq_false_iff_not]at this;omega
 have hp:=IK h6;have hp2:prN L i<=2401:=by
  have:7^min i 4<=7^4:=Nat.pow_le_pow_right oma (Nat.min_le_right _ _)
  have h3:(7:Nat)^4=2401:=rfl;omega
 have hst:prN L (i+1)=if i<4 then prN L i*((L.getD i []).length+1) else prN L i:=rfl
 obtain⟨q,hq⟩:=Qt (prN L i)
 have eq:=hq.symm;rw[eq]at hp2 hst
 by_cases hi:i<L.length
 ·have k1:((i:Int)<L.length)=True:=eqt oma;have hit:aB i (L.getD i [])=true->R=true:=λhc=>by rw[hR,qP.2 ⟨i,hi,hc⟩];rfl
  have i4:=λhc=>wQ (p:=λi=>aB i (L.getD i [])) i3 hc
  obtain⟨r,hr⟩:=Qt (L.getD i [])
  have er:=hr.symm;rw[er]at hst hit;simp only[er]at i4;have hB:aB i r=(decide (6<r.length)||((decide (4<=i)&&decide (1<r.length))||jm (λk=>xW (r.getD k default)) r.length)):=rfl
  by_cases g1:6<r.length
  ·have k2:((6:Int)<r.length)=True:=eqt oma;rw[hit (by rw[hB,dqt g1];rfl)];simp (disch:=omega) only[qm,zR,k1,k2,er,eq,go_sem]
   repeat' first|exact tF|(with_reducible first|intro _|apply aiA)|exact clz|fail
  have k2:((6:Int)<r.length)=False:=eqf oma;rw[dqf g1,Bool.false_or]at hB;have hq':q*(r.length+1)<=2401*7:=Nat.mul_le_mul hp2 oma;have hmul:(q:Int)*((r.length:Int)+1)=((q*(r.length+1):Nat):Int):=by push_cast;rfl
  have m2:(((q*(r.length+1):Nat):Int)<=9223372036854775807)=True:=eqt oma;have m3:(-9223372036854775808<=((q*(r.length+1):Nat):Int))=True:=eqt oma
  by_cases gg:4<=i∧1<r.length
  ·have k3:((4:Int)<=i)=True:=eqt oma;have k5:((1:Int)<r.length)=True:=eqt oma;rw[hit (by rw[hB,dqt gg.1,dqt gg.2];rfl)];simp (disch:=omega) only[qm,zR,k1,k2,k3,k5,er,eq,go_sem]
   repeat' first|exact tF|with_reducible apply aiA|exact clz|fail
  have hB':aB i r=jm (λk=>xW (r.getD k default)) r.length:=by
   rw[hB]
   have:(decide (4<=i)&&decide (1<r.length))=false:=by
    rw[<-Bool.decide_and];exact dqf gg
   rw[this,Bool.false_or]
  rcases Nat.lt_or_ge i 4 with gi|gi
  ·have k3:((4:Int)<=i)=False:=eqf oma;have k4:((i:Int)<4)=True:=eqt oma;rw[ipo gi]at hst;simp (disch:=omega) only[qm,zR,k1,k2,k3,k4,er,eq,hmul,go_sem]
   repeat' first|(apply qa;exact rvk;simp only[go_sem];apply qd)|(with_reducible first|intro _|apply aiA)|exact clz|fail
   refine qr (T:=λk:Nat×AObj=>qY 97 [(0,qm L),(3,.int .i64 ((q*(r.length+1):Nat):Int)),(4,.int .i64 i),(5,.int .i64 k.1)]) (H:=λk=>h++ [k.2]) (inv:=λk=>k.1<=r.length∧qG [k.2] 0=true∧ ∀j,j<k.1->(λk=>xW (r.getD k default)) j=false) (m:=λk=>r.length-k.1) (0,O) ⟨nzl _,i2,λj hj=>absurd hj (nnz j)⟩ (Wk.temps ?_) ?_
   ·(simp only[qm,go_sem,qg,qc,qb,qf];try exact tT)
   rintro⟨k,O'⟩ ⟨u1,u2,u3⟩ K2 hK2;simp only at u1 u2 u3 hK2;have u2': ∀m,qG (O'::m) 0=true:=λ_=>u2
   by_cases hk:k<r.length
   ·have t1:((k:Int)<r.length)=True:=eqt oma;have hbit:xW (r.getD k default)=true->R=true:=λhc=>hit (by rw[hB',qP];exact⟨k,hk,hc⟩)
    have u4:=λhc=>wQ (p:=λk=>xW (r.getD k default)) u3 hc
    obtain⟨t,ht⟩:=Qt (r.getD k default)
    have et:=ht.symm;rw[et]at hbit;simp only[et]at u4;have hT:xW t=(decide (12<t.text.length)||(decide (12<t.norm.length)||(decide (20<t.page.length)||decide (20<t.name.length)))):=rfl
    by_cases gA:12<t.text.length
    ·have qA:((12:Int)<t.text.length)=True:=eqt oma;rw[hbit (by rw[hT,dqt gA];simp)];simp (disch:=omega) only[qm,zR,tkC,k1,t1,er,et,u2',qA,go_sem]
     repeat' first|exact tF|with_reducible apply aiA|exact clz|fail
    have qA:((12:Int)<t.text.length)=False:=eqf oma
    by_cases gB:12<t.norm.length
    ·have qB:((12:Int)<t.norm.length)=True:=eqt oma;rw[hbit (by rw[hT,dqt gB];simp)];simp (disch:=omega) only[qm,zR,tkC,k1,t1,er,et,u2',qA,qB,go_sem]
     repeat' first|exact tF|with_reducible apply aiA|exact clz|fail
    have qB:((12:Int)<t.norm.length)=False:=eqf oma
    by_cases gC:20<t.page.length
    ·have qC:((20:Int)<t.page.length)=True:=eqt oma;rw[hbit (by rw[hT,dqt gC];simp)];simp (disch:=omega) only[qm,zR,tkC,k1,t1,er,et,u2',qA,qB,qC,go_sem]
     repeat' first|exact tF|with_reducible apply aiA|exact clz|fail
    have qC:((20:Int)<t.page.length)=False:=eqf oma
    by_cases gD:20<t.name.length
    ·have qD:((20:Int)<t.name.length)=True:=eqt oma;rw[hbit (by rw[hT,dqt gD];simp)];simp (disch:=omega) only[qm,zR,tkC,k1,t1,er,et,u2',qA,qB,qC,qD,go_sem]
     repeat' first|exact tF|with_reducible apply aiA|exact clz|fail
    have qD:((20:Int)<t.name.length)=False:=eqf oma;simp (disch:=omega) only[qm,zR,tkC,k1,t1,er,et,u2',qA,qB,qC,qD,go_sem]
    repeat' first|with_reducible apply aiA|exact clz|fail
    refine hK2 _ _ (k+1,_) ⟨hk,rfl,u4 (by rw[hT,dqf gA,dqf gB,dqf gC,dqf gD];rfl)⟩ (by simp only;omega) (Wk.temps ?_)
    (simp only[qm,zR,tkC,go_sem,qg,qc,qb,qf];try exact tT)
   ·have t1:((k:Int)<r.length)=False:=eqf oma;have hz:aB i r=false:=by rw[hB',qq];exact λj hj=>u3 j oma
    simp (disch:=omega) only[qm,zR,t1,er,go_sem]
    repeat' first|with_reducible apply aiA|exact clz|fail
    refine hK _ _ (i+1,O') ⟨hi,u2,i4 hz⟩ (by simp only;omega) ?_;simp only[hst];refine Wk.temps ?_
    (simp only[qm,go_sem,qg,qc,qb,qf];try exact tT)
  ·have k3:((4:Int)<=i)=True:=eqt oma;have k4:((i:Int)<4)=False:=eqf oma;have k5:((1:Int)<r.length)=False:=eqf oma;rw[ine oma]at hst;simp (disch:=omega) only[qm,zR,k1,k2,k3,k4,k5,er,eq,hmul,go_sem]
   repeat' first|with_reducible apply aiA|exact clz|fail
   refine qr (T:=λk:Nat×AObj=>qY 97 [(0,qm L),(3,.int .i64 (q:Int)),(4,.int .i64 i),(5,.int .i64 k.1)]) (H:=λk=>h++ [k.2]) (inv:=λk=>k.1<=r.length∧qG [k.2] 0=true∧ ∀j,j<k.1->(λk=>xW (r.getD k default)) j=false) (m:=λk=>r.length-k.1) (0,O) ⟨nzl _,i2,λj hj=>absurd hj (nnz j)⟩ (Wk.temps ?_) ?_
   ·(simp only[qm,go_sem,qg,qc,qb,qf];try exact tT)
   rintro⟨k,O'⟩ ⟨u1,u2,u3⟩ K2 hK2;simp only at u1 u2 u3 hK2;have u2': ∀m,qG (O'::m) 0=true:=λ_=>u2
   by_cases hk:k<r.length
   ·have t1:((k:Int)<r.length)=True:=eqt oma;have hbit:xW (r.getD k default)=true->R=true:=λhc=>hit (by rw[hB',qP];exact⟨k,hk,hc⟩)
    have u4:=λhc=>wQ (p:=λk=>xW (r.getD k default)) u3 hc
    obtain⟨t,ht⟩:=Qt (r.getD k default)
    have et:=ht.symm;rw[et]at hbit;simp only[et]at u4;have hT:xW t=(decide (12<t.text.length)||(decide (12<t.norm.length)||(decide (20<t.page.length)||decide (20<t.name.length)))):=rfl
    by_cases gA:12<t.text.length
    ·have qA:((12:Int)<t.text.length)=True:=eqt oma;rw[hbit (by rw[hT,dqt gA];simp)];simp (disch:=omega) only[qm,zR,tkC,k1,t1,er,et,u2',qA,go_sem]
     repeat' first|exact tF|with_reducible apply aiA|exact clz|fail
    have qA:((12:Int)<t.text.length)=False:=eqf oma
    by_cases gB:12<t.norm.length
    ·have qB:((12:Int)<t.norm.length)=True:=eqt oma;rw[hbit (by rw[hT,dqt gB];simp)];simp (disch:=omega) only[qm,zR,tkC,k1,t1,er,et,u2',qA,qB,go_sem]
     repeat' first|exact tF|with_reducible apply aiA|exact clz|fail
    have qB:((12:Int)<t.norm.length)=False:=eqf oma
    by_cases gC:20<t.page.length
    ·have qC:((20:Int)<t.page.length)=True:=eqt oma;rw[hbit (by rw[hT,dqt gC];simp)];simp (disch:=omega) only[qm,zR,tkC,k1,t1,er,et,u2',qA,qB,qC,go_sem]
     repeat' first|exact tF|with_reducible apply aiA|exact clz|fail
    have qC:((20:Int)<t.page.length)=False:=eqf oma
    by_cases gD:20<t.name.length
    ·have qD:((20:Int)<t.name.length)=True:=eqt oma;rw[hbit (by rw[hT,dqt gD];simp)];simp (disch:=omega) only[qm,zR,tkC,k1,t1,er,et,u2',qA,qB,qC,qD,go_sem]
     repeat' first|exact tF|with_reducible apply aiA|exact clz|fail
    have qD:((20:Int)<t.name.length)=False:=eqf oma;simp (disch:=omega) only[qm,zR,tkC,k1,t1,er,et,u2',qA,qB,qC,qD,go_sem]
    repeat' first|with_reducible apply aiA|exact clz|fail
    refine hK2 _ _ (k+1,_) ⟨hk,rfl,u4 (by rw[hT,dqf gA,dqf gB,dqf gC,dqf gD];rfl)⟩ (by simp only;omega) (Wk.temps ?_)
    (simp only[qm,zR,tkC,go_sem,qg,qc,qb,qf];try exact tT)
   ·have t1:((k:Int)<r.length)=False:=eqf oma;have hz:aB i r=false:=by rw[hB',qq];exact λj hj=>u3 j oma
    simp (disch:=omega) only[qm,zR,t1,er,go_sem]
    repeat' first|with_reducible apply aiA|exact clz|fail
    refine hK _ _ (i+1,O') ⟨hi,u2,i4 hz⟩ (by simp only;omega) ?_;simp only[hst];refine Wk.temps ?_
    (simp only[qm,go_sem,qg,qc,qb,qf];try exact tT)
 have k1:((i:Int)<L.length)=False:=eqf oma;obtain rfl:i=L.length:=by omega
 rw[qq.2 (λj hj=>i3 j hj),Bool.false_or,<-hq]at hR
 by_cases g1:400<q
 ·have k2:((400:Int)<q)=True:=eqt oma;rw[hR,dqt g1,Bool.true_or];simp (disch:=omega) only[qm,k1,k2,eq,go_sem]
  repeat' first|exact tF|fail
 have k2:((400:Int)<q)=False:=eqf oma;rw[dqf g1,Bool.false_or]at hR
 by_cases g2:6<L.length
 ·have k3:((6:Int)<L.length)=True:=eqt oma
  by_cases g3:L.length<=32
  ·have k4:((L.length:Int)<=32)=True:=eqt oma;rw[hR,dqt g2,dqt g3];simp (disch:=omega) only[qm,k1,k2,k3,k4,eq,go_sem]
   repeat' first|exact tF|fail
  have k4:((L.length:Int)<=32)=False:=eqf oma;have e1:decide ((34:Int)<L.length)=decide (34<L.length):=decide_eq_decide.2 oma;rw[hR,dqt g2,dqf g3,<-e1];simp (disch:=omega) only[qm,k1,k2,k3,k4,eq,go_sem]
  repeat' first|exact tF|fail
 have k3:((6:Int)<L.length)=False:=eqf oma;have e1:decide ((34:Int)<L.length)=decide (34<L.length):=decide_eq_decide.2 oma;rw[hR,dqf g2,<-e1];simp (disch:=omega) only[qm,k1,k2,k3,eq,go_sem]
 repeat' first|exact tF|fail
structure CoB (x:Co):Prop where
 sg:x.sig.length<=9223372036854775807
 tk:x.tok.length<=9223372036854775807
 cl:x.col.length<=9223372036854775807
def Dk(x:Co):Bool:=jm (λi=>decide (36<(x.col.getD i []).length)) x.col.length||(gtB x.tok||(decide (24<x.col.length)||(decide (36<x.sig.length)||gnB x.sec x.sig)))
theorem SY(x:Co)(h:JN)(hb:CoB x):ACalls Tryz.prog 9 [.agg (coC x)] h (.bool (Dk x)) h:=by
 have c1:=λh=>gtP x.tok h hb.tk
 have c2:=λh=>gnP x.sec x.sig h hb.sg
 have hc:=hb.cl;obtain⟨R,hR⟩:=Qt (Dk x)
 rw[<-hR];unfold Dk at hR;unfold qm at c1;unfold strs at c2;refine acO SV ?_;simp (disch:=omega) only[c9s,coC,qn,go_sem];refine qr (T:=λi:Nat=>qY 40 [(1,.op h.length 1 0),(3,.int .i64 i)]) (H:=λ_=>h++ [.mem 1 26 (coC x)]) (inv:=λi=>i<=x.col.length∧ ∀j,j<i->(λi=>decide (36<(x.col.getD i []).length)) j=false) (m:=λi=>x.col.length-i) 0 ⟨nzl _,λj hj=>absurd hj (nnz j)⟩ (Wk.temps ?_) ?_
 ·(simp only[go_sem,qg,qc,qb,qf];try exact tT)
 rintro i ⟨i1,i2⟩ K hK
 by_cases hi:i<x.col.length
 ·have k1:((i:Int)<x.col.length)=True:=eqt oma
  by_cases g:36<(x.col.getD i []).length
  ·have hV:R=true:=by rw[hR,qP.2 ⟨i,hi,dqt g⟩];rfl
   obtain⟨s,hs⟩:=Qt (x.col.getD i [])
   have es:=hs.symm;rw[es]at g;have k2:((36:Int)<s.length)=True:=eqt oma;rw[hV];simp (disch:=omega) only[coC,qn,qx,k1,k2,es,go_sem]
   repeat' first|exact tF|with_reducible apply aiA|exact clz|fail
  ·have i3:=wQ i2 (dqf g);obtain⟨s,hs⟩:=Qt (x.col.getD i [])
   have es:=hs.symm;rw[es]at g;have k2:((36:Int)<s.length)=False:=eqf oma;simp (disch:=omega) only[coC,qn,qx,k1,k2,es,go_sem]
   repeat' first|with_reducible apply aiA|exact clz|fail
   refine hK _ _ (i+1) ⟨hi,i3⟩ oma (Wk.temps ?_)
   (simp only[go_sem,qg,qc,qb,qf];try exact tT)
 have k1:((i:Int)<x.col.length)=False:=eqf oma;rw[qq.2 (λj hj=>i2 j oma),Bool.false_or]at hR;cases gA:gtB x.tok with
 |true=>
  rw[gA]at hR c1;rw[hR,Bool.true_or];simp (disch:=omega) only[coC,qn,k1,qm,go_sem]
  repeat' first|(refine qj ( .bool false) ?_;simp (disch:=omega) only[go_sem])|(refine cA (c1 _) flk ?_;simp (disch:=omega) only[go_sem])|exact tF|with_reducible apply aiA|exact clz|fail
 |false=>
 rw[gA]at hR c1;rw[Bool.false_or]at hR
 by_cases g2:24<x.col.length
 ·have k2:((24:Int)<x.col.length)=True:=eqt oma;rw[hR,dqt g2,Bool.true_or];simp (disch:=omega) only[coC,qn,k1,qm,go_sem]
  repeat' first|(refine qj ( .bool false) ?_;simp (disch:=omega) only[go_sem])|(refine cA (c1 _) flk ?_;simp (disch:=omega) only[k2,go_sem])|exact tF|with_reducible apply aiA|exact clz|fail
 have k2:((24:Int)<x.col.length)=False:=eqf oma;rw[dqf g2,Bool.false_or]at hR
 by_cases g3:36<x.sig.length
 ·have k3:((36:Int)<x.sig.length)=True:=eqt oma;rw[hR,dqt g3,Bool.true_or];simp (disch:=omega) only[coC,qn,k1,qm,strs,go_sem]
  repeat' first|(refine qj ( .bool false) ?_;simp (disch:=omega) only[go_sem])|(refine cA (c1 _) flk ?_;simp (disch:=omega) only[k2,k3,go_sem])|exact tF|with_reducible apply aiA|exact clz|fail
 have k3:((36:Int)<x.sig.length)=False:=eqf oma;rw[dqf g3,Bool.false_or]at hR;rw[hR];simp (disch:=omega) only[coC,qn,k1,qm,strs,go_sem]
 repeat' first|((first|refine cA (c1 _) ?_ ?_|refine cG (λe=>c2 _) ?_ ?_);exact flk;simp (disch:=omega) only[k2,k3,go_sem])|exact tF|with_reducible apply aiA|exact clz|fail
def guR(u:Un)(k:Nat):Bool:=decide (8<(u.rds.getD k default).src.length)||gwB (u.rds.getD k default).words 8
def guB(u:Un):Bool:=decide (6<u.rds.length)||jm (guR u) u.rds.length
def RB(l:List Un):Bool:=jm (λi=>guB (l.getD i default)) l.length||decide (12<l.length)
end RC
end
section
open Go Go.Proofs AF
def bY:List Nat:= []
def Ri:C:=
 (pk [ON 2 (.nilo 0 1 9) []] (pk [ON 3 (.nilo 1 1 9) []] ((pk [MV 6 0,O1 7 .len 6,oF 8 0] (C.block 0 (pk [BI 9 .lss 8 7] ((p8 9 0).seq ((C.block 1 (pk [O2 10 (.idxA 7) 6 8,O1 11
 (.load (some 7)) 10,⟨some 5,none,.alloc 2 133 [.str [],i6 0,i6 0,i6 0,.bool false,.bool false,.str []],[]⟩,ST 7 5 11] (rv [MV 12 3,oE 13 0 5,LD 14 13,⟨some 15,none,.bslc 3 1 1
 9 [.str []] [(0,1)],[.t 14]⟩,O2 16 (.app 4 1 9 16) 12 15,MV 3 16]))).seq (rv [oT 17 .add 8 1,MV 8 17])))).loop)).seq (p9 [MV 18 3,MV 2 18]))))
theorem Oj:qK Tryz.prog 19 19 5 [RV.tmp 2] Ri:=fi Tryz.f19 [2,3,5,15,16] bY []
def Fz:C:=
 (pk [O1 2 (.box 0 26) 0,oF 4 0] ((pk [O1 5 (.load (some 4)) 2,O1 6 (.call 47 true) 5,oT 7 .neq 6 0] (p7 7 (p9 [oF 4 1]))).seq ((pk [O1 8 (.load (some 4)) 2,MV 9 1,O2 10 (.call
 74 true) 8 9,oT 11 .neq 10 0] (p7 11 (p9 [oF 4 20]))).seq (p9 [oF 4 0]))))
theorem J2:qK Tryz.prog 66 12 1 [RV.tmp 4] Fz:=fi Tryz.f66 [2] bY []
def Ru:C:=
 (pk [ON 4 (.nilo 0 1 9) []] (pk [ON 5 (.nilo 1 1 9) []] ((pk [MV 8 0,O1 9 .len 8,oF 10 0] (C.block 0 (pk [BI 11 .lss 10 9] ((p8 11 0).seq ((C.block 1 (pk [O2 12 (.idxA 7) 8
 10,O1 13 (.load (some 7)) 12,⟨some 7,none,.alloc 2 133 [.str [],i6 0,i6 0,i6 0,.bool false,.bool false,.str []],[]⟩,ST 7 7 13] (pk [oE 14 2 7,LD 15 14,MV 16 1,BI 17 .eql 15 16]
 (p7 17 (rv [MV 18 5,oE 19 0 7,LD 20 19,⟨some 21,none,.bslc 3 1 1 9 [.str []] [(0,1)],[.t 20]⟩,O2 22 (.app 4 1 9 16) 18 21,MV 5 22]))))).seq (rv [oT 23 .add 10 1,MV 10
 23])))).loop)).seq (p9 [MV 24 5,MV 4 24]))))
theorem OE:qK Tryz.prog 90 25 5 [RV.tmp 4] Ru:=fi Tryz.f90 [4,5,7,21,22] bY []
def Rj:C:=
 (pk [O1 4 (.box 0 26) 0,ON 8 (.nilo 1 1 9) [],oF 9 0] ((pk [O1 11 (.load (some 4)) 4,MV 12 1,O2 13 (.call 66 true) 11 12,MV 10 13] (pk [MV 14 10,oT 15 .neq 14 0] (p7 15 (p9 [MV
 16 10,ON 8 (.nilo 1 1 9) [],MV 9 16])))).seq ((pk [MV 17 3,oT 18 .lss 17 0,MV 19 18,pc 20 19 3,pc 21 19 1,oX 22 19 .len 21,pb 23 19 (.bin .geq) 20 22,PT 24 19 23] (p7 24 (p9
 [ON 8 (.nilo 1 1 9) [],oF 9 20]))).seq (p9 [MV 25 2,MV 26 3,O2 27 (.call 90 true) 25 26,MV 8 27,oF 9 0]))))
theorem Om:qK Tryz.prog 39 28 2 [RV.tmp 8,RV.tmp 9] Rj:=fi Tryz.f39 [4,8] bY []
end
section
open Go Go.Proofs AF HY LN
namespace RC
def YG(L:List (List Str)):AV:= .sl L.length λi=> [strs (L.getD i [])]
def Yc(L:List Bool):AV:= .sl L.length λi=> [.bool (L.getD i false)]
theorem flag_clsV(L:List (List Str)):(YG L).flag=true:=rfl
theorem strip_clsV(L:List (List Str)):(YG L).strip=YG L:=rfl
theorem flag_bolV(L:List Bool):(Yc L).flag=true:=rfl
theorem strip_bolV(L:List Bool):(Yc L).strip=Yc L:=rfl
section
variable {fz : Nat -> Bool} {h : JN} {n : Nat}
theorem rei_clsV(L:List (List Str)):rei fz h (n+1) (YG L)=YG L:=rfl
theorem rei_bolV(L:List Bool):rei fz h (n+1) (Yc L)=Yc L:=rfl
theorem frz_clsV(L:List (List Str)):frz fz h (n+1) (YG L)=YG L:=rfl
theorem frz_bolV(L:List Bool):frz fz h (n+1) (Yc L)=Yc L:=rfl
end
attribute [go_sem] flag_clsV strip_clsV flag_bolV strip_bolV rei_clsV rei_bolV frz_clsV frz_bolV
theorem jt{α:Type}{d:α}(L:List α)(P:α->Prop)(hd:P d)(h: ∀i,i<L.length->P (L.getD i d)): ∀i,P (L.getD i d):=by
 intro i
 by_cases hi:i<L.length
 ·exact h i hi
 ·rw[gdqA,List.getElem?_eq_none oma];exact hd
theorem Xq{x:Co}(h:Dk x=false):yv x∧x.col.length<=24∧x.sig.length<=36:=by
 unfold Dk at h;rw[Bool.or_eq_false_iff,Bool.or_eq_false_iff,Bool.or_eq_false_iff,Bool.or_eq_false_iff,qq,decide_eq_false_iff_not,decide_eq_false_iff_not]at h;obtain⟨h1,h2,h3,h4,h5⟩:=h;unfold gtB at h2;rw[Bool.or_eq_false_iff,qq,Bool.or_eq_false_iff,Bool.or_eq_false_iff,decide_eq_false_iff_not,decide_eq_false_iff_not]at h2;obtain⟨t1,t2,t3,t4⟩:=h2;unfold gnB at h5;rw[Bool.or_eq_false_iff,qq,decide_eq_false_iff_not]at h5;obtain⟨n1,n2⟩:=h5;have hrow: ∀i,i<x.tok.length->(x.tok.getD i []).length<=6∧ ∀j,j<(x.tok.getD i []).length->xW ((x.tok.getD i []).getD j default)=false:=λi hi=>by
  have:=t1 i hi
  unfold aB at this;rw[Bool.or_eq_false_iff,Bool.or_eq_false_iff,decide_eq_false_iff_not,qq]at this;exact⟨oma,this.2.2⟩
 have hd0:WM (default:Tk):=⟨by decide,by decide,by decide,by decide⟩
 refine⟨⟨oma,oma,?_,oma,?_,?_,oma,?_⟩,oma,oma⟩
 ·exact jt x.sig (λs=>s.length<=1000000000) (by decide) λi hi=>by
   have:=of_decide_eq_false (n1 i hi)
   omega
 ·exact jt x.tok (λs=>s.length<=1000000000) (by decide) λi hi=>by have:=(hrow i hi).1;omega
 ·exact jt x.tok (λs=> ∀j,WM (s.getD j default)) (λj=>by simpa using hd0) λi hi=>jt _ WM hd0 λj hj=>by
   have:=(hrow i hi).2 j hj
   unfold xW at this;simp only[Bool.or_eq_false_iff,decide_eq_false_iff_not]at this;exact⟨oma,oma,oma,oma⟩
 ·exact jt x.col (λs=>s.length<=1000000000) (by decide) λi hi=>by
   have:=of_decide_eq_false (h1 i hi)
   omega
theorem H8{l:List Un}(h:RB l=false):aM l∧l.length<=12:=by
 unfold RB at h;rw[Bool.or_eq_false_iff,qq,decide_eq_false_iff_not]at h;obtain⟨h1,h2⟩:=h;have hu: ∀i,i<l.length->(l.getD i default).rds.length<=6∧ ∀j,j<(l.getD i default).rds.length->((l.getD i default).rds.getD j default).src.length<=8∧((l.getD i default).rds.getD j default).words.length<=8:=λi hi=>by
  have:=h1 i hi
  unfold guB at this;rw[Bool.or_eq_false_iff,decide_eq_false_iff_not,qq]at this;refine⟨oma,λj hj=> ?_⟩;have h3:=this.2 j hj;unfold guR at h3;rw[Bool.or_eq_false_iff,decide_eq_false_iff_not]at h3
  have:=(Ik h3.2).1
  exact⟨oma,oma⟩
 refine⟨⟨oma,?_,?_,?_⟩,oma⟩
 ·exact jt l (λu=>u.rds.length<=1000000000) (by decide) λi hi=>by have:=(hu i hi).1;omega
 ·exact jt l (λu=> ∀j,(u.rds.getD j default).src.length<=1000000000) (λj=>by simp[show (default:Un).rds= []from rfl,show (default:Rd).src= []from rfl]) λi hi=>jt _ (λr:Rd=>r.src.length<=1000000000) (by decide) λj hj=>by have:=(hu i hi).2 j hj;omega
 ·exact jt l (λu=> ∀j,(u.rds.getD j default).words.length<=1000000000) (λj=>by simp[show (default:Un).rds= []from rfl,show (default:Rd).words= []from rfl]) λi hi=>jt _ (λr:Rd=>r.words.length<=1000000000) (by decide) λj hj=>by have:=(hu i hi).2 j hj;omega
end RC
end
section
namespace AF
open Go
theorem Wk.moveCell{t:JT}{h:JN}{i j a w v:Nat}{ty ty':TypeId}{ds cs:JT}{sz off len:Nat}
  (hi:qu i h=some (.mem w ty' ds)) (ha:ds[a]? =some (.osl j v sz off len)) (hj:qu j h=some (.mem v ty cs)) (hne:i≠j):
  Wk t h t (qt i (qt j h (.emp (v+1))) (.mem w ty' (ds.set a (.osl h.length 1 sz off len)))++ [.mem 1 ty cs]):=by
 intro N W σ A H;obtain⟨p1,p2⟩:=H.hr.pushN 1;have hjl:=zh hj;have hil:=zh hi;have hj':qu j (h++ [.emp 0])=some (.mem v ty cs):=by rw[zA hjl];exact hj
 have hg:qu h.length (h++ [AObj.emp 0])=some (.emp 0):=by unfold qu;rw[List.getElem?_append_right (nlr _),Nat.sub_self];rfl
 have hk':qG (h++ [.emp 0]) h.length=true:=by unfold qG;rw[hg]
 obtain⟨σ2,q1,q2,q3⟩:=HR.move (h:=h++ [.emp 0]) p1 hj' hk' oma;have e0:qt h.length (qt j (h++ [.emp 0]) (.emp (v+1))) (.mem (qo (qu h.length (h++ [.emp 0]))+1) ty cs)=qt j h (.emp (v+1))++ [.mem 1 ty cs]:=by
  rw[hg];unfold qt;rw[List.set_append_left _ _ hjl,List.set_append_right _ _ (by rw[List.length_set];exact nlr _),List.length_set,Nat.sub_self];rfl
 rw[e0]at q1;rw[hg]at q3;have ee:=p2.trans q2;have hiq:qu i (qt j h (.emp (v+1))++ [.mem 1 ty cs])=some (.mem w ty' ds):=by
  rw[zA (by rw[qL];exact hil),qQ (by exact hne)];exact hi
 obtain⟨o,b,arr,o1,o2,o3,o4,o5,o6,o7,o8,o9⟩:=jy q1 (qJ hiq);obtain⟨o',b',arr',r1,r2,r3,r4,r5,r6,r7,r8,r9⟩:=jy H.hr (qJ hi);obtain⟨o2',s1,s2,s3⟩:=ee.obj i o' r1;rw[o1]at s1;cases s1;have eo:o=o':=s3 (o2.trans r2.symm);subst eo;rw[o4]at r4;cases r4;have earr:arr=arr':=by
  obtain⟨T,fz,_,x1⟩:=o5;obtain⟨T',fz',_,x2⟩:=r5;rw[x1]at x2;cases x2;rfl
 subst earr;have q:=q1.recell (cs':=ds.set a (.osl h.length 1 sz off len)) hiq o1 o4 o5 o6 (by simpa using o7) (λn x hn hx=>o8 n x (by simpa using hn) hx) (λn d x hd hx=>by
  rw[List.getElem?_set]at hd;split at hd
  ·rename_i e;subst e;split at hd
   ·cases hd;exact q3 sz off len x ((r9 a _ x ha hx).ext p2)
   ·cases hd
  ·exact o9 n d x hd hx)
 have e1:qt i (qt j h (.emp (v+1))++ [.mem 1 ty cs]) (.mem w ty' (ds.set a (.osl h.length 1 sz off len)))=qt i (qt j h (.emp (v+1))) (.mem w ty' (ds.set a (.osl h.length 1 sz off len)))++ [.mem 1 ty cs]:=by
  unfold qt;rw[List.set_append_left _ _ (by rw[List.length_set];exact hil)]
 rw[e1]at q;exact⟨σ2,⟨q,H.sz,λn d x hd hx=>(H.tm n d x hd hx).ext ee,vQ ee H.df⟩,ee⟩
end AF
end
section
open Go Go.Proofs AF HY LN
namespace RC
def vY(base:Nat)(L:List Rd):JT:=(List.range L.length).flatMap λj=> [strs (L.getD j default).words,.osl (base+j) (L.getD j default).src.length 1 0 (L.getD j default).src.length]
def lN(L:List Rd):JN:=L.map λr=> .mem r.src.length 3 (qM r.src)
theorem Vy(L:List Rd):(lN L).length=L.length:=by simp[lN]
theorem uW{L:List Rd}{j:Nat}(hj:j<L.length):(lN L)[j]? =some (.mem (L.getD j default).src.length 3 (qM (L.getD j default).src)):=by
 unfold lN;rw[List.getElem?_map,zg hj,gdqA,zg hj];rfl
theorem Vx(L M:List Rd):lN (L++M)=lN L++lN M:=by simp[lN]
theorem Vz{L:List Rd}{j:Nat}(r:Rd):(lN L).set j (.mem r.src.length 3 (qM r.src))=lN (L.set j r):=by
 unfold lN;rw[List.map_set]
theorem be{α:Type}(f g:Nat->List α): ∀n,(∀i,i<n->f i=g i)->(List.range n).flatMap f=(List.range n).flatMap g:=λn h=>by
 rw[List.flatMap_def,List.flatMap_def];congr 1;exact List.map_congr_left λi hi=>h i (List.mem_range.1 hi)
theorem uV(base:Nat)(L:List Rd)(r:Rd):vY base (L++ [r])=vY base L++ [strs r.words,.osl (base+L.length) r.src.length 1 0 r.src.length]:=by
 unfold vY;rw[lap,List.length_singleton,List.range_succ,List.flatMap_append];congr 1
 ·refine be _ _ _ λi hi=> ?_
  rw[gdqA,List.getElem?_append_left hi,<-gdqA]
 ·simp
theorem yG(base:Nat)(L:List Rd):(vY base L).length=2*L.length:=by
 unfold vY;generalize L.length=n;generalize hf:(λj=> [strs (L.getD j default).words,AV.osl (base+j) (L.getD j default).src.length 1 0 (L.getD j default).src.length])=f;have h2: ∀j,(f j).length=2:=λj=>by rw[<-hf];rfl
 induction n with
 |zero=>rfl
 |succ n ih=>rw[List.range_succ,List.flatMap_append,lap,ih];simp[h2];omega
theorem bf(base:Nat)(L:List Rd){k:Nat}(hk:k<L.length): ∃A B,A.length=2*k∧vY base L=A++ [strs (L.getD k default).words,.osl (base+k) (L.getD k default).src.length 1 0 (L.getD k default).src.length]++B∧
  ∀s,vY base (L.set k ⟨(L.getD k default).words,s⟩)=A++ [strs (L.getD k default).words,.osl (base+k) s.length 1 0 s.length]++B:=by
 have e:List.range L.length=List.range k++k::(List.range (L.length-(k+1))).map (λi=>k+1+i):=by
  conv=>lhs;rw[show L.length=k+1+(L.length-(k+1)) by omega,List.range_add,List.range_succ,List.append_assoc]
  rfl
 refine⟨(List.range k).flatMap λj=> [strs (L.getD j default).words,.osl (base+j) (L.getD j default).src.length 1 0 (L.getD j default).src.length],((List.range (L.length-(k+1))).map (λi=>k+1+i)).flatMap λj=> [strs (L.getD j default).words,.osl (base+j) (L.getD j default).src.length 1 0 (L.getD j default).src.length],?_,?_,λs=> ?_⟩
 ·have h2: ∀(f:Nat->JT),(∀j,(f j).length=2)-> ∀n,((List.range n).flatMap f).length=2*n:=λf hf n=>by
   induction n with
   |zero=>rfl
   |succ n ih=>rw[List.range_succ,List.flatMap_append,lap,ih];simp[hf];omega
  exact h2 _ (λ_=>rfl) _
 ·unfold vY;rw[e,List.flatMap_append,List.flatMap_cons,List.append_assoc]
 ·unfold vY;rw[List.length_set,e,List.flatMap_append,List.flatMap_cons,List.append_assoc];have g: ∀j,(L.set k ⟨(L.getD k default).words,s⟩).getD j default=if j=k then ⟨(L.getD k default).words,s⟩ else L.getD j default:=λj=>kn hk
  congr 1
  ·refine be _ _ _ λi hi=> ?_
   rw[g,ine oma]
  ·rw[g,ipo rfl];show _::_::_=_::_::_;congr 2;rw[List.flatMap_def,List.flatMap_def,List.map_map,List.map_map];refine congrArg List.flatten (List.map_congr_left λi _=> ?_);simp only[Function.comp];rw[g,ine oma]
theorem Vw{base:Nat}{L:List Rd}{i:Nat}(hi:i<L.length):((vY base L).drop (i*2)).take 2= [strs (L.getD i default).words,.osl (base+i) (L.getD i default).src.length 1 0 (L.getD i default).src.length]:=by
 obtain⟨A,B,h1,h2,_⟩:=bf base L hi;rw[h2,show i*2=A.length by omega,List.append_assoc,List.drop_append,Nat.sub_self];simp
theorem KF{L:List Int}{n:Nat}{g:AV->AV}(hg: ∀x,g (.int .i64 x)= .int .i64 x)(hn:n=L.length):ILe (fP (some (.mem n 3 (qM L))) n 1 0 n g) (qx L):=by
 subst hn;rw[slOf_mem,ipo ⟨rfl,by rw[jg];omega⟩];refine ILe.sl_eq λi hi=> ?_
 simp only[Nat.zero_add,Nat.mul_one];have e:((qM L).drop i).take 1= [.int .i64 (L.getD i 0)]:=by
  rw[List.drop_eq_getElem_cons (by rw[jg];exact hi),List.take_succ_cons,List.take_zero];have h:=tO (C:=L) hi;rw[zg (by rw[jg];exact hi)]at h;rw[Option.some.inj h]
 rw[e,List.map_cons,List.map_nil,hg]
theorem uZ{base v:Nat}{L:List Rd}{n:Nat}{fz:Nat->Bool}{H:JN}{d:Nat}(hn:n=L.length)(hf: ∀j,j<L.length->fz (base+j)=true)(hj: ∀j,j<L.length->qu (base+j) H=some (.mem (L.getD j default).src.length 3 (qM (L.getD j default).src))):
  VLe (fP (some (ze v 152 (vY base L))) v 2 0 n (rei fz H (d+2))) (jM L):=by
 subst hn
 by_cases h0:L= []
 ·subst h0;show VLe (fP (some (.emp v)) v 2 0 0 _) _;rw[slOf_emp,ipo rfl];exact qU
 ·have e0:ze v 152 (vY base L)= .mem v 152 (vY base L):=vB (λe=>h0 (by
   have:=yG base L
   rw[e]at this
   exact List.eq_nil_of_length_eq_zero (by simp at this;omega)))
  rw[e0,slOf_mem,ipo ⟨rfl,by rw[yG];omega⟩];refine VLe.sl (λi hi=> ?_);simp only[Nat.zero_add];rw[Vw hi];refine⟨ILe.refl _,?_,trivial⟩;show ILe (rei fz H (d+1+1) (.osl (base+i) _ 1 0 _)) _;rw[rei_osl,ipo (hf i hi),hj i hi];exact KF (λ_=>rfl) rfl
theorem YN{A B:JT}{a b c:AV}{n:Nat}(hn:n=A.length+1):List.take n (A++ [a,b]++B)++ [c]++List.drop (n+1) (A++ [a,b]++B)=A++ [a,c]++B:=by
 have e1:A++ [a,b]++B=(A++ [a])++(b::B):=by simp
 have e2:A++ [a,b]++B=(A++ [a]++ [b])++B:=by simp
 have h1:List.take n (A++ [a,b]++B)=A++ [a]:=by rw[e1];exact List.take_left' (by rw[lap,List.length_singleton,hn])
 have h2:List.drop (n+1) (A++ [a,b]++B)=B:=by rw[e2];exact List.drop_left' (by rw[lap,lap,List.length_singleton,List.length_singleton,hn])
 rw[h1,h2];simp
theorem fU{hi:Int}: ∀ {S:List Int} {lo:Int},S.Pairwise (· < ·)->(∀x∈S,lo<=x∧x<hi)->S.length<=(hi-lo).toNat:=by
 intro S
 induction S with
 |nil=>intro lo _ _;exact nzl _
 |cons a S ih=>
  intro lo h1 h2;obtain⟨p1,p2⟩:=List.pairwise_cons.1 h1;have ha:=h2 a List.mem_cons_self
  have:=ih (lo:=a+1) p2 λx hx=>⟨by have:=p1 x hx;omega,(h2 x (List.mem_cons_of_mem _ hx)).2⟩
  rw[lco];omega
theorem OU{h M:JN}{a0 a1 a2 a3 a4 a5 a6 a7 a8:AObj}:(h++a0::a1::a2::a3::a4::a5::a6::a7::a8::M).length=h.length+9+M.length:=by
 simp only[lap,lco];omega
theorem dY{h M:JN}{a0 a1 a2 a3 a4 a5 a6 a7 a8:AObj}{j:Nat}:qu (h.length+9+j) (h++a0::a1::a2::a3::a4::a5::a6::a7::a8::M)=M[j]? :=by
 unfold qu;rw[List.getElem?_append_right oma,show h.length+9+j-h.length=j+9 by omega];rfl
theorem Lh{h M:JN}{a0 a1 a2 a3 a4 a5 a6 a7 a8 o:AObj}{j:Nat}:qt (h.length+9+j) (h++a0::a1::a2::a3::a4::a5::a6::a7::a8::M) o=h++a0::a1::a2::a3::a4::a5::a6::a7::a8::M.set j o:=by
 unfold qt;rw[List.set_append_right _ _ oma,show h.length+9+j-h.length=j+9 by omega];rfl
theorem RJ(x:Co)(f t:Nat)(h:JN)(ho:CoOk x)(ht:t<=x.col.length)(hn:x.col.length<=1000000000):ACalls Tryz.prog 63 [.agg (coC x),.int .i64 (f:Int),.int .i64 (t:Int)] h (jM (aF x f t)) h:=by
 have zl: ∀g,valL g .len [strs x.sig]= .int .i64 x.sig.length:=λ_=>rfl
 have zo: ∀g,okL g .len [strs x.sig]=True:=λ_=>eqt trivial
 refine acO Ov ?_;simp (disch:=omega) only[Ro,coC,zl,zo,go_sem];refine qr (T:=λi:Nat×Nat×AObj×AObj×AObj×AObj=>qY 48 [(1,.int .i64 (f:Int)),(2,.int .i64 (t:Int)),(3,.op h.length 1 0),(7,.osl (h.length+2) i.2.1 2 0 (ye x f (t-f) i.1).length),(13,.int .i64 x.sig.length),(14,.int .i64 i.1)])
  (H:=λi=>h++ .mem 1 26 (coC x):: .emp 1::ze i.2.1 152 (vY (h.length+9) (ye x f (t-f) i.1))::i.2.2.1::i.2.2.2.1::i.2.2.2.2.1:: .emp 0::i.2.2.2.2.2:: .emp 0::lN (ye x f (t-f) i.1))
  (inv:=λi=>i.1<=x.sig.length∧qG [i.2.2.1] 0=true∧qG [i.2.2.2.1] 0=true∧qG [i.2.2.2.2.1] 0=true∧qG [i.2.2.2.2.2] 0=true) (m:=λi=>x.sig.length-i.1) (0,1,.emp 0,.emp 0,.emp 0,.emp 0) ⟨nzl _,rfl,rfl,rfl,rfl⟩ (Wk.temps ?_) ?_
 ·(simp only[ye,lnl,go_sem,qg,qc,qb,qf];try exact tT)
 rintro⟨s,v,O3,O4,O5,O7⟩ ⟨i1,j3,j4,j5,j7⟩ K hK;simp only at i1 j3 j4 j5 j7 hK;have j3': ∀m,qG (O3::m) 0=true:=λ_=>j3
 have j4': ∀m,qG (O4::m) 0=true:=λ_=>j4
 have j5': ∀m,qG (O5::m) 0=true:=λ_=>j5
 have j7': ∀m,qG (O7::m) 0=true:=λ_=>j7
 have hst:ye x f (t-f) (s+1)=fK (ye x f (t-f) s) (rdG x s f (t-f)) s:=rfl;have hln:=lQ x f (t-f) s;have hsg:=ho.sg;obtain⟨L,hL⟩:=Qt (ye x f (t-f) s)
 rw[<-hL]at hst hln;have eL:=hL.symm
 by_cases hs:s<x.sig.length
 ·have k1:((s:Int)<x.sig.length)=True:=eqt oma;have c21:=λh=>rdP x f t s h ho ht hs hn
  obtain⟨w,hw⟩:=Qt (rdG x s f (t-f))
  rw[<-hw]at hst;simp only[<-hw]at c21;unfold coC at c21;simp (disch:=omega) only[coC,k1,eL,go_sem]
  repeat' first|(refine cA (c21 _) flk ?_;simp (disch:=omega) only[j3',j4',go_sem])
  have hwl:w.length<=1000000000:=by have:=cm x s f (t-f);rw[<-hw]at this;omega
  have hRd:=cp x f (t-f) s;rw[eL]at hRd;have hwL: ∀j,(L.getD j default).words.length<=1000000000:=jt L (λr=>r.words.length<=1000000000) (by decide) λj hj=>by
   have h1:=hRd.nn j hj;obtain⟨y,ys,e⟩:=List.exists_cons_of_ne_nil h1;have h2:=hRd.wd j hj y (by rw[e];exact List.mem_cons_self);rw[h2]
   have:=cm x y.toNat f (t-f)
   omega
  have hob:= @uW L;refine cA (r:= .int .i64 (lM L w)) ?c (by exact flk) ?_
  case c=>
   refine ACalls.borrow ((fdP L ⟨w,[(s:Int)]⟩ [] oma hwl hwL).le ?v (qi)) rfl;simp only[List.map_cons,List.map_nil,go_sem];refine⟨uZ rfl (λ_ _=>rfl) (λj hj=>by rw[dY];exact hob hj),VLe.agg ⟨qi,VLe.sl_eq rfl (λi hi=> ?_),trivial⟩,qi,trivial⟩;obtain rfl:i=0:=by simpa using hi
   rfl
  have eKl:=yG (h.length+9) L;rcases xK L w with⟨k,b1,b2,b3⟩|⟨b1,b2⟩
  ·have q1:(lM L w<0)=False:=eqf oma;have hst2:ye x f (t-f) (s+1)=L.set k ⟨w,(L.getD k default).src++ [(s:Int)]⟩:=by
    rw[hst];unfold fK;rw[b3,ine oma,itn]
   obtain⟨A,B,a1,a2,a3⟩:=bf (h.length+9) L b1;have a3:=a3 ((L.getD k default).src++ [(s:Int)]);have hne:(vY (h.length+9) L≠ [])=True:=eqt λe=>by rw[e]at eKl;simp at eKl;omega
   have hob:=hob b1;rw[b2]at a2 a3;have hos:= @Vz L k ⟨w,(L.getD k default).src++ [(s:Int)]⟩;rw[<-hst2]at hos a3;dsimp only at hos;obtain⟨S,hS⟩:=Qt ((L.getD k default).src)
   rw[<-hS]at a2 a3 hob hos;rw[lap,List.length_singleton]at a3 hos;rw[ed,show qM [(s:Int)]= [AV.int .i64 (s:Int)]from rfl]at hos;have gg:(vY (h.length+9) L)[k*2+1]? =some (.osl (h.length+9+k) S.length 1 0 S.length):=by
    rw[a2,List.append_assoc,List.getElem?_append_right oma,show k*2+1-A.length=1 by omega];rfl
   have gs:List.take (k*2+1) (vY (h.length+9) L)++ [.osl (h.length+9+k) (S.length+1) 1 0 (S.length+1)]++List.drop (k*2+1+1) (vY (h.length+9) L)=vY (h.length+9) (ye x f (t-f) (s+1)):=by
    rw[a2,a3];exact YN oma
   have eI:=jg S;have hSl:S.length<=1000:=by
    have:=(cq x f (t-f) s).src (L.getD k default) (by rw[eL,gdqA,zg b1];exact List.getElem_mem b1)
    have:=fU (hi:=(s:Int)) (lo:=0) this.1 this.2
    rw[<-hS]at this;omega
   have eown:ze v 152 (vY (h.length+9) L)= .mem v 152 (vY (h.length+9) L):=vB (of_eq_true hne);have el2:(ye x f (t-f) (s+1)).length=L.length:=by rw[hst2,List.length_set]
   have eown2:ze v 152 (vY (h.length+9) (ye x f (t-f) (s+1)))= .mem v 152 (vY (h.length+9) (ye x f (t-f) (s+1))):=vB λe=>by
    have:=yG (h.length+9) (ye x f (t-f) (s+1))
    rw[e,el2]at this;simp at this;omega
   have eTi:List.take S.length (qM S)=qM S:=ltl oma;have kL:((k:Int)<L.length)=True:=eqt oma;have k0:(0<=(k:Int))=True:=eqt oma;rw[eown];simp (disch:=omega) only[b3,j7',gg,eKl,kL,k0,Option.getD_some,Option.isSome_some,dY,Lh,hob,eTi,Nat.mul_one,itn,go_sem]
   repeat' first|(with_reducible first|intro _|apply aiA)|exact clz|fail
   all_goals try (simp only[jp,zP,dY,hob,wj,ql,if_true,Option.getD_some,eI,beq_self_eq_true];done)
   all_goals try (simp only[bne_iff_ne];omega)
   all_goals try (simp only[zP,dY,hob,ql,if_true,Option.getD_some,eI];exact nlr _)
   rw[gs];have eD:(AV.int .i64 (s:Int)::List.drop 1 (zQ [i6 0] 1))= [AV.int .i64 (s:Int)]:=rfl;simp only[eD];rw[hos];refine hK _ _ (s+1,v,.mem (qo (some O3)+1) 3 [.int .i64 (s:Int)],.mem (qo (some O4)+1) 152 [strs w,.osl (h.length+3) (qo (some O3)+1) 1 0 1],O5,.mem (qo (some O7)+1) 3 [.int .i64 (s:Int)]) ⟨hs,rfl,rfl,j5,rfl⟩ (by simp only;omega) ?_;simp only[eown2,el2,coC];refine Wk.temps ?_
   (simp only[go_sem,qg,qc,qb,qf];try exact tT)
  ·have q1:(lM L w<0)=True:=eqt b2;have hst2:ye x f (t-f) (s+1)=L++ [⟨w,[(s:Int)]⟩]:=by
    rw[hst];unfold fK;rw[ipo b2]
   have eTk:List.take (L.length*2) (vY (h.length+9) L)=vY (h.length+9) L:=ltl oma;simp (disch:=omega) only[q1,j5',eTk,eKl,Nat.mul_one,go_sem]
   repeat' first|with_reducible apply aiA|exact clz|fail
   have el2:(ye x f (t-f) (s+1)).length=L.length+1:=by rw[hst2,lap];rfl
   have eo:lN (ye x f (t-f) (s+1))=lN L++ [.mem 1 3 [.int .i64 (s:Int)]]:=by rw[hst2,Vx];rfl
   have ek:vY (h.length+9) (ye x f (t-f) (s+1))=vY (h.length+9) L++ [strs w,.osl (h.length+9+L.length) 1 1 0 1]:=by rw[hst2,uV];rfl
   have eown:ze (v+1) 152 (vY (h.length+9) L++ [strs w,.osl (h.length+3) (qo (some O3)+1) 1 0 1])= .mem (v+1) 152 (vY (h.length+9) L++ [strs w,.osl (h.length+3) (qo (some O3)+1) 1 0 1]):=vB (by simp);have eown2:ze (v+1) 152 (vY (h.length+9) L++ [strs w,.osl (h.length+9+L.length) 1 1 0 1])= .mem (v+1) 152 (vY (h.length+9) L++ [strs w,.osl (h.length+9+L.length) 1 1 0 1]):=vB (by simp);have eset:(vY (h.length+9) L++ [strs w,AV.osl (h.length+3) (qo (some O3)+1) 1 0 1]).set (L.length*2+1) (.osl (h.length+9+L.length) 1 1 0 1)=vY (h.length+9) L++ [strs w,.osl (h.length+9+L.length) 1 1 0 1]:=by
    rw[List.set_append_right _ _ oma,eKl,show L.length*2+1-2*L.length=1 by omega];rfl
   rw[eown];refine hK _ _ (s+1,v+1,.emp (qo (some O3)+1+1),.mem (qo (some O4)+1) 152 [strs w,.osl (h.length+3) (qo (some O3)+1) 1 0 1],.mem (qo (some O5)+1) 152 [strs w,.osl (h.length+3) (qo (some O3)+1) 1 0 1],O7) ⟨hs,rfl,rfl,rfl,j7⟩ (by simp only;omega)
    (Wk.trans (Wk.moveCell (i:=h.length+2) (j:=h.length+3) (a:=L.length*2+1) (w:=v+1) (v:=qo (some O3)+1) (ty:=3) (ty':=152) (ds:=vY (h.length+9) L++ [strs w,.osl (h.length+3) (qo (some O3)+1) 1 0 1]) (cs:= [.int .i64 (s:Int)]) (sz:=1) (off:=0) (len:=1) ?m1 ?m2 ?m3 oma) ?m4)
   case m1=>simp only[go_sem]
   case m2=>
    rw[List.getElem?_append_right oma,show L.length*2+1-(vY (h.length+9) L).length=1 by omega];rfl
   case m3=>simp only[go_sem];rfl
   case m4=>
    have eD:(AV.int .i64 (s:Int)::List.drop 1 (zQ [i6 0] 1))= [AV.int .i64 (s:Int)]:=rfl;have eD2: ∀c:AV,(strs w::c::List.drop 2 (zQ [AV.nl,AV.nl] 1))= [strs w,c]:=λ_=>rfl
    simp only[eo,ek,eown2,el2,coC,eD,eD2,OU,Vy,go_sem,eset,List.append_assoc,lca];refine Wk.temps ?_
    (simp only[go_sem,qg,qc,qb,qf];try exact tT)
 ·have k1:((s:Int)<x.sig.length)=False:=eqf oma;obtain rfl:s=x.sig.length:=by omega
  have hF:aF x f t=L:=by rw[hL];rfl
  rw[hF];simp (disch:=omega) only[k1,eL,go_sem]
  repeat' first|(apply qa;exact rvk;simp only[go_sem])
  exact uZ rfl (λj _=>dqt oma) (λj hj=>by rw[dY];exact uW hj)
theorem SA(l:List Un)(f t:Nat)(k v k2 v2:Nat)(h:JN)(hk:qu k h=some (.mem v 3 [.int .i64 (f:Int)]))(hk2:qu k2 h=some (.mem v2 3 [.int .i64 (t:Int)]))(hn:l.length<=1000000000):
  ACalls Tryz.prog 14 [qZ l,.fn (.func 226) [] [.op k v 0,.op k2 v2 0]] h (.bool (rnB l (f,t))) h:=by
 have hc:=qJ hk;have hc2:=qJ hk2;unfold qZ rnB;refine W4 Gp ⟨rfl,rfl⟩ ⟨rfl,rfl⟩ (y4 Aa l.length (λj=>unC (l.getD j default)) (λj=> .agg (unC (l.getD j default))) _ [] [.op k v 0,.op k2 v2 0] _ h (λi _=>⟨rfl,by simp[jK,unC],rfl,rfl,rfl⟩) (λi _=> ?_) oma);refine ACalls.borrow ?_ rfl;have e:([AV.agg (unC (l.getD i default))]++ [AV.op k v 0,AV.op k2 v2 0]).map (rei (λ_=>true) h 8)= [.agg (unC (l.getD i default)),.ip [.int .i64 (f:Int)],.ip [.int .i64 (t:Int)]]:=by
  simp only[lca,lna,List.map_cons,List.map_nil,rei_op,if_true,hc,hc2,ipOf_some,List.drop_zero,rei_agg];rfl
 rw[lna,e];exact TJ _ _ _ _
theorem ZX(l:List Un)(i:Nat):beH l (i+1)=(l.getD i default).to:=by unfold beH;rw[ine oma,Nat.add_sub_cancel]
theorem AL(u:Un)(n v:Nat)(ty:TypeId):lowO n (.mem v ty (unC u)):=by
 intro c hc;simp only[unC,List.mem_cons,List.not_mem_nil,or_false]at hc;rcases hc with rfl|rfl|rfl<;>rfl
theorem AI(x:Co)(n v:Nat)(ty:TypeId):lowO n (.mem v ty (coC x)):=by
 intro c hc;simp only[coC,List.mem_cons,List.not_mem_nil,or_false]at hc;rcases hc with rfl|rfl|rfl|rfl<;>rfl
theorem Qc(x:Co): ∀a∈rnX x,a.length=2:=by
 intro a ha;unfold rnX at ha;obtain⟨_,_,rfl⟩:=List.mem_map.1 ha;rfl
theorem gY(x:Co):(rnX x).length=(bz (cmB x) x.col.length).length:=by simp[rnX]
theorem Qb{x:Co}{i:Nat}(hi:i<(rnX x).length):(rnX x)[i]= [.int .i64 (((bz (cmB x) x.col.length).getD i (0,0)).1:Int),.int .i64 (((bz (cmB x) x.col.length).getD i (0,0)).2:Int)]:=by
 have h2:i<(bz (cmB x) x.col.length).length:=by rw[<-gY];exact hi
 simp only[rnX,List.getElem_map];rw[gdqA,zg h2];rfl
theorem uY(x:Co)(f d:Nat)(hd:d<=1000000000)(s:Nat)(hs:s<=1000000000):WL (ye x f d s):=by
 have hI:=cq x f d s;have hH:=cp x f d s;have hl:=lQ x f d s;refine⟨oma,?_,?_⟩
 ·exact jt _ (λr:Rd=>r.src.length<=1000000000) (by decide) λj hj=>by
   have:=hI.src ((ye x f d s).getD j default) (by rw[gdqA,zg hj];exact List.getElem_mem hj)
   have:=fU (hi:=(s:Int)) (lo:=0) this.1 this.2
   omega
 ·exact jt _ (λr:Rd=>r.words.length<=1000000000) (by decide) λj hj=>by
   have h1:=hH.nn j hj;obtain⟨y,ys,e⟩:=List.exists_cons_of_ne_nil h1;have h2:=hH.wd j hj y (by rw[e];exact List.mem_cons_self);rw[h2]
   have:=cm x y.toNat f d
   omega
theorem TK(x:Co)(l:List Un)(h:JN)(ho:CoOk x)(hn:x.col.length<=1000000000)(hu:aM l):ACalls Tryz.prog 152 [.agg (coC x),qZ l] h (.bool (rgB x l)) h:=by
 have hsg:=ho.sg;have hl:=hu.n;obtain⟨R,hR⟩:=Qt (rgB x l)
 rw[<-hR];unfold rgB at hR;refine acO Gt ?_;simp (disch:=omega) only[Ef,coC,qZ,go_sem]
 repeat' first|with_reducible apply aiA|exact clz|fail
 refine qr (T:=λi:Nat×AObj=>qY 63 [(2,.op h.length 1 0),(3,.op (h.length+1) 1 0),(4,.op (h.length+2) 1 0),(5,.int .i64 (beH l i.1)),(10,qZ l),(11,.int .i64 l.length),(12,.int .i64 i.1)])
  (H:=λi=>h++ [.mem 1 26 (coC x),.mem 1 31 [qZ l],.mem 1 4 [.bool false],i.2,.emp 0,.emp 0])
  (inv:=λi=>i.1<=l.length∧qG [i.2] 0=true∧(∀n,lowO n i.2)∧ ∀j,j<i.1->unB x (beH l j) (l.getD j default)=true) (m:=λi=>l.length-i.1) (0,.emp 0) ⟨nzl _,rfl,λ_=>trivial,λj hj=>absurd hj (nnz j)⟩ (Wk.temps ?_) ?_
 ·(simp only[qZ,beH,go_sem,qg,qc,qb,qf];try exact tT)
 rintro⟨i,O⟩ ⟨i1,i2,il,i3⟩ K hK;simp only at i1 i2 il i3 hK;have i2': ∀m,qG (O::m) 0=true:=λ_=>i2
 by_cases hi:i<l.length
 ·have k1:((i:Int)<l.length)=True:=eqt oma;have hno:unB x (beH l i) (l.getD i default)=false->R=false:=λhx=>by
   rw[hR];unfold vr;rw[qP.2 ⟨i,hi,by rw[hx];rfl⟩];rfl
  have hS:unB x (beH l i) (l.getD i default)=true-> ∀j,j<i+1->unB x (beH l j) (l.getD j default)=true:=λhx j hj=>by
   by_cases e:j=i
   ·subst e;exact hx
   ·exact i3 j oma
  have hbs:=ZX l i;have zrd:WL (l.getD i default).rds:=⟨hu.rd i,hu.sr i,hu.wd i⟩
  obtain⟨u,hux⟩:=Qt (l.getD i default)
  have eu:=hux.symm;rw[eu]at hno hS hbs zrd;obtain⟨b,hb⟩:=Qt (beH l i)
  have eb:=hb.symm;rw[eb]at hno hS;have hB:unB x b u= !(decide (u.frm<=b)||(decide (u.frm<0)||(decide (u.to<=u.frm)||(decide ((x.col.length:Int)<u.to)|| !decide (u.rds=aF x u.frm.toNat u.to.toNat))))):=rfl
  by_cases g1:u.frm<=b
  ·have q1:(u.frm<=b)=True:=eqt g1;rw[hno (by rw[hB,dqt g1];rfl)];simp (disch:=omega) only[qZ,unC,coC,qn,jM,k1,eu,eb,i2',q1,go_sem]
   repeat' first|(refine qj ( jM []) ?_;simp (disch:=omega) only[jM,go_sem])|exact tF|with_reducible apply aiA|exact clz|fail
  have q1:(u.frm<=b)=False:=eqf g1
  by_cases g2:u.frm<0
  ·have q2:(u.frm<0)=True:=eqt g2;rw[hno (by rw[hB,dqt g2];simp)];simp (disch:=omega) only[qZ,unC,coC,qn,jM,k1,eu,eb,i2',q1,q2,go_sem]
   repeat' first|(refine qj ( jM []) ?_;simp (disch:=omega) only[jM,go_sem])|exact tF|with_reducible apply aiA|exact clz|fail
  have q2:(u.frm<0)=False:=eqf g2
  by_cases g3:u.to<=u.frm
  ·have q3:(u.to<=u.frm)=True:=eqt g3;rw[hno (by rw[hB,dqt g3];simp)];simp (disch:=omega) only[qZ,unC,coC,qn,jM,k1,eu,eb,i2',q1,q2,q3,go_sem]
   repeat' first|(refine qj ( jM []) ?_;simp (disch:=omega) only[jM,go_sem])|exact tF|with_reducible apply aiA|exact clz|fail
  have q3:(u.to<=u.frm)=False:=eqf g3
  by_cases g4:(x.col.length:Int)<u.to
  ·have q4:((x.col.length:Int)<u.to)=True:=eqt g4;rw[hno (by rw[hB,dqt g4];simp)];simp (disch:=omega) only[qZ,unC,coC,qn,jM,k1,eu,eb,i2',q1,q2,q3,q4,go_sem]
   repeat' first|(refine qj ( jM []) ?_;simp (disch:=omega) only[jM,go_sem])|exact tF|with_reducible apply aiA|exact clz|fail
  have q4:((x.col.length:Int)<u.to)=False:=eqf g4;obtain⟨f,hf⟩: ∃f:Nat,u.frm=(f:Int):=⟨u.frm.toNat,oma⟩
  obtain⟨t,ht⟩: ∃t:Nat,u.to=(t:Int):=⟨u.to.toNat,oma⟩
  have c48:=λh=>RJ x f t h ho oma hn
  have zF:WL (aF x f t):=uY x f (t-f) oma x.sig.length oma;have c49:=λh=>TQ u.rds (aF x f t) h zrd zF
  have eft:aF x u.frm.toNat u.to.toNat=aF x f t:=by rw[hf,ht,itn,itn]
  rw[dqf g1,dqf g2,dqf g3,dqf g4,eft]at hB;obtain⟨F,hF⟩:=Qt (aF x f t)
  rw[<-hF]at hB;simp only[<-hF]at c48 c49;obtain⟨c,hc⟩:=Qt (decide (u.rds=F))
  rw[<-hc]at hB;simp only[<-hc]at c49;rw[hf]at q1 q2 q3;rw[ht]at q3 q4;unfold coC qn at c48;unfold jM at c48 c49;cases c with
  |false=>
   rw[hno hB];simp (disch:=omega) only[qZ,unC,coC,qn,jM,k1,eu,eb,i2',q1,q2,q3,q4,hf,ht,go_sem]
   repeat' first|((first|refine cG (λe=>c48 _) ?_ ?_|refine cG (λe=>c49 _) ?_ ?_);exact flk;simp (disch:=omega) only[go_sem])|exact tF|with_reducible apply aiA|exact clz|fail
  |true=>
   simp (disch:=omega) only[qZ,unC,coC,qn,jM,k1,eu,eb,i2',q1,q2,q3,q4,hf,ht,go_sem]
   repeat' first|((first|refine cG (λe=>c48 _) ?_ ?_|refine cG (λe=>c49 _) ?_ ?_);exact flk;simp (disch:=omega) only[go_sem])|with_reducible apply aiA|exact clz|fail
   refine hK _ _ (i+1,.mem (qo (some O)+1) 39 (unC u)) ⟨hi,rfl,λn=>AL u n _ _,hS hB⟩ (by simp only;omega) ?_;simp only[hbs,ht,unC,hf];refine Wk.temps ?_
   (simp only[qZ,go_sem,qg,qc,qb,qf];try exact tT)
 have k1:((i:Int)<l.length)=False:=eqf oma;obtain rfl:i=l.length:=by omega
 have hun:vr x l=true:=by
  unfold vr;rw[qq.2 λj hj=>by rw[i3 j hj];rfl];rfl
 rw[hun,Bool.true_and]at hR;have hcv:=YR hun;clear hK;have c56:=λh=>RL x h
 unfold coC qn at c56;simp (disch:=omega) only[coC,qn,k1,go_sem]
 repeat' first|(refine cA (c56 _) flk ?_;simp (disch:=omega) only[go_sem])
 obtain⟨rs,hrs⟩:=Qt (bz (cmB x) x.col.length)
 have hrl:=gY x;have hrg:=λi hi=>Qb (x:=x) (i:=i) hi
 rw[<-hrs]at hrl hcv;simp only[<-hrs]at hrg;refine zn (xs:=rnX x) (itR x ho hn) (Qc x)
  (S:=λi hh=>(∃O8 O9,qG [O8] 0=true∧qG [O9] 0=true∧(∀n,lowO n O8)∧(∀n,lowO n O9)∧hh=h++ [.mem 1 26 (coC x),.mem 1 31 [qZ l],.mem 1 4 [.bool false],O,O8,O9])∧ ∀j,j<i->rnB l (rs.getD j (0,0))=true)
  (E:=λs hh=>s= .ret∧R=false∧ ∃O8 O9,(∀n,lowO n O8)∧(∀n,lowO n O9)∧hh=h++ [.mem 1 26 (coC x),.mem 1 31 [qZ l],.mem 1 4 [.bool false],O,O8,O9]) ?_ ?_ ?_ ?_ ?_ ?_ ?_
 ·rintro i hh ⟨⟨O8,O9,_,_,l8,l9,rfl⟩,_⟩;refine LowI.app rfl (λo ho=> ?_);simp only[List.mem_cons,List.not_mem_nil,or_false]at ho;rcases ho with rfl|rfl|rfl|rfl|rfl|rfl
  ·left;simp[coC,qn]
  ·left;simp
  ·left;simp
  ·left;simp
  ·right;exact⟨l8 _,l8 _⟩
  ·right;exact⟨l9 _,l9 _⟩
 ·rintro s hh ⟨_,_,O8,O9,l8,l9,rfl⟩;refine LowI.app rfl (λo ho=> ?_);simp only[List.mem_cons,List.not_mem_nil,or_false]at ho;rcases ho with rfl|rfl|rfl|rfl|rfl|rfl
  ·left;simp[coC,qn]
  ·left;simp
  ·left;simp
  ·left;simp
  ·right;exact⟨l8 _,l8 _⟩
  ·right;exact⟨l9 _,l9 _⟩
 ·exact⟨⟨.emp 0,.emp 0,rfl,rfl,λ_=>trivial,λ_=>trivial,rfl⟩,λj hj=>absurd hj (nnz j)⟩
 ·have lu: ∀n,qR n (qZ l)=true:=λ_=>rfl
  have lt: ∀n,qR n (qm x.tok)=true:=λ_=>rfl
  simp[qR,qR.lowVs,lu,lt,lF]
  try omega
 ·rintro i hh tl LI TS hi ⟨⟨O8,O9,s8,s9,l8,l9,rfl⟩,hj⟩ hlen K K2 hK hN hR' hX;rw[hrg i hi];rw[hrl]at hi;obtain⟨⟨f,t⟩,hr⟩: ∃r,r=rs.getD i (0,0):=⟨_,rfl⟩
  have er:=hr.symm;rw[er];have s8': ∀m,qG (O8::m) 0=true:=λ_=>s8
  have s9': ∀m,qG (O9::m) 0=true:=λ_=>s9
  simp only[ke];simp (disch:=omega) only[List.append_assoc,coC,s8',s9',go_sem];refine hK _ _ (h++ [.mem 1 26 (coC x),.mem 1 31 [qZ l],.mem 1 4 [.bool false],O,.mem (qo (some O8)+1) 3 [.int .i64 (f:Int)],.mem (qo (some O9)+1) 3 [.int .i64 (t:Int)]]) (by simp[coC]) (by simp) ?_;simp (disch:=omega) only[List.append_assoc,go_sem]
  repeat' first|with_reducible apply aiA|exact clz|fail
  refine cA (SA l f t (h.length+4) _ (h.length+5) _ _ ?ka ?kb hl) (by exact flk) ?_
  case ka=>simp only[go_sem]
  case kb=>simp only[go_sem]
  have l8': ∀n,lowO n (.mem (qo (some O8)+1) 3 [.int .i64 (f:Int)]):=λn c hc=>by simp at hc;subst hc;rfl
  have l9': ∀n,lowO n (.mem (qo (some O9)+1) 3 [.int .i64 (t:Int)]):=λn c hc=>by simp at hc;subst hc;rfl
  cases hb:rnB l (f,t)with
  |true=>
   simp (disch:=omega) only[go_sem];refine hN _ _ (h++ [.mem 1 26 (coC x),.mem 1 31 [qZ l],.mem 1 4 [.bool false],O,.mem (qo (some O8)+1) 3 [.int .i64 (f:Int)],.mem (qo (some O9)+1) 3 [.int .i64 (t:Int)]]) (by simp[coC]) (by simp) ⟨⟨_,_,rfl,rfl,l8',l9',rfl⟩,λj hj'=> ?_⟩
   by_cases e:j=i
   ·subst e;rw[er];exact hb
   ·exact hj j oma
  |false=>
   have hRf:R=false:=by
    rw[hR];cases hc:cvA x l with
    |false=>rfl
    |true=>
     have h2:=List.all_eq_true.1 (hcv.2 hc) (f,t) (by rw[hr,gdqA,zg hi];exact List.getElem_mem hi);rw[hb]at h2;cases h2
   simp (disch:=omega) only[go_sem];refine hR' _ _ (h++ [.mem 1 26 (coC x),.mem 1 31 [qZ l],.mem 1 4 [.bool false],O,.mem (qo (some O8)+1) 3 [.int .i64 (f:Int)],.mem (qo (some O9)+1) 3 [.int .i64 (t:Int)]]) (by simp[coC]) (by simp) ⟨rfl,hRf,_,_,l8',l9',rfl⟩
 ·rintro hh ⟨⟨O8,O9,s8,s9,l8,l9,rfl⟩,hj⟩;have hRt:R=true:=by
   rw[hR];refine hcv.1 (List.all_eq_true.2 λr hr=> ?_);obtain⟨j,hj1,rfl⟩:=List.getElem_of_mem hr
   have:=hj j (by rw[hrl];exact hj1)
   rw[gdqA,zg hj1]at this;exact this
  rw[hRt];simp (disch:=omega) only[go_sem]
  repeat' first|exact tF|fail
 ·rintro e hh ⟨rfl,hRf,O8,O9,l8,l9,rfl⟩;rw[hRf];simp (disch:=omega) only[go_sem]
  repeat' first|exact tF|fail
theorem vaP(x:Co)(l:List Un)(h:JN)(hz:yv x)(hu:aM l)(hp:kM SG h):ACalls Tryz.prog 74 [.agg (coC x),qZ l] h (.int .i64 (vaE x l)) h:=by
 have c1:=λl'=>coP x (h++l') hz (hp.app l')
 unfold vaE
 by_cases g:coE x=0
 case neg=>
  have k1:(coE x=0)=False:=eqf g;rw[ipo g];obtain⟨e,he⟩:=Qt (coE x)
  rw[<-he]at c1 k1;unfold coC at c1;refine acO HQ ?_;simp (disch:=omega) only[NE,coC,go_sem]
  repeat' first|(refine cA (c1 _) flk ?_;simp (disch:=omega) only[k1,go_sem])|exact tF|fail
 rw[ine (λhc=>hc g)];have c2:=λh=>TK x l h (j6 g) hz.cl hu
 rw[g]at c1;unfold coC at c1 c2;cases g2:rgB x l<;>rw[g2]at c2
 all_goals
  refine acO HQ ?_;simp (disch:=omega) only[NE,coC,go_sem]
  repeat' first|((first|refine cA (c1 _) ?_ ?_|refine cA (c2 _) ?_ ?_);exact flk;simp (disch:=omega) only[go_sem])|exact tF|fail
end RC
end
section
open Go Go.Proofs AF
def Ap:List Nat:= [1000072,1000073,1000075,1000076,1000077,1000078,1000079]
@[go_sem]def wD:DT:= DT.one ⟨none,none,.store 1,[.t 17,.t 79]⟩ DT.nil
@[go_sem]def wr:DT:= DT.one ⟨some 71,none,.load none,[.t 70]⟩ (DT.one ⟨some 72,none,.idxI 1,[.t 71,.c (i6 0)]⟩ (DT.one ⟨some 73,none,.loadI none,[.t 72]⟩ (DT.one ⟨some 77,none,.idxI 6,[.t 73,.t 76]⟩
 (DT.one ⟨some 78,none,.fldI 0,[.t 77]⟩ (DT.one ⟨some 79,none,.loadI none,[.t 78]⟩ wD)))))
def NA:C:=
 (pk [O1 3 (.box 0 26) 0,oF 6 0] ((pk [O1 18 (.load (some 4)) 3,MV 19 1,O2 20 (.call 74 true) 18 19,MV 7 20] (pk [MV 21 7,oT 22 .neq 21 0] (p7 22 (p9 [MV 23 7,MV 6 23])))).seq
 (pk [oE 24 3 3,LD 25 24,O1 26 .len 25,⟨some 27,none,.mkslc 1 1 3 [i6 0] 8,[.t 26,.t 26]⟩,MV 8 27] (pk [⟨some 9,none,.alloc 2 133 [.str [],i6 0,i6 0,i6 0,.bool false,.bool
 false,.str []],[]⟩] ((pk [MV 28 2,O1 29 .len 28,oF 30 0] (C.block 0 (pk [BI 31 .lss 30 29] ((p8 31 0).seq ((C.block 1 (pk [MV 32 30,O2 33 (.idxA 7) 28 30,O1 34 (.load (some 7))
 33,⟨some 11,none,.alloc 3 133 [.str [],i6 0,i6 0,i6 0,.bool false,.bool false,.str []],[]⟩,MV 10 32,ST 7 11 34] ((pk [O1 35 (.load (some 4)) 3,MV 36 1,O1 37 (.load (some 7))
 11,O1 38 (.load (some 7)) 9,MV 39 10,oT 40 .eql 39 0,ON 41 (.call 75 true) [.t 35,.t 36,.t 37,.t 38,.t 40],MV 12 41] (pk [MV 42 12,oT 43 .neq 42 0] (p7 43 (p9 [MV 44 12,MV 6
 44])))).seq (pk [O1 45 (.load (some 7)) 11,ST 7 9 45] (rv [MV 46 8,oE 47 1 11,LD 48 47,O2 49 (.idxA 1) 46 48,LD 50 49,oT 51 .add 50 1,O2 52 (.idxA 1) 46 48,ST 1 52 51]))))).seq
 (rv [oT 53 .add 30 1,MV 30 53])))).loop)).seq ((pk [oE 54 3 3,LD 55 54,O1 56 .len 55,oF 57 0] (C.block 2 (pk [BI 58 .lss 57 56] ((p8 58 2).seq ((C.block 3 (pk [MV 59 57,O2 60
 (.idxA 1) 55 57,LD 61 60,⟨some 13,none,.alloc 4 3 [i6 0],[]⟩,ST 1 13 59,MV 14 61] ((pk [MV 63 1,LD 64 13,O2 65 (.call 76 true) 63 64,MV 62 65,O1 66 (.ext 0) 62,O1 67 (.ext 1)
 62,MV 15 66,MV 16 67] (pk [MV 68 15,oT 69 .geq 68 0] (p7 69 (C.exit 3)))).seq ((C.draw (DT.one ⟨some 74,none,.mv,[.t 14]⟩ (DT.one ⟨some 75,none,.idxI 1,[.t 74,.c (i6 0)]⟩
 (DT.one ⟨some 76,none,.loadI none,[.t 75]⟩ ((DT.one ⟨some 70,none,.fldA 2,[.t 3]⟩ ((DT.one ⟨some 71,none,.load none,[.t 70]⟩ (DT.one ⟨some 72,none,.idxI 1,[.t 71,.c (i6 0)]⟩
 (DT.one ⟨some 73,none,.loadI none,[.t 72]⟩ (DT.one ⟨some 77,none,.idxI 6,[.t 73,.t 76]⟩ (DT.one ⟨some 78,none,.fldI 0,[.t 77]⟩ (DT.one ⟨some 79,none,.loadI none,[.t 78]⟩
 (DT.one ⟨some 17,none,.alloc 5 9 [.str []],[]⟩ wD))))))).two (DT.one ⟨some 17,none,.alloc 5 9 [.str []],[]⟩ wr))).two (DT.one ⟨some 17,none,.alloc 5 9 [.str []],[]⟩ (DT.one
 ⟨some 70,none,.fldA 2,[.t 3]⟩ wr))))))).seq (pk [MV 80 8,LD 81 13,O2 82 (.idxA 1) 80 81,LD 83 82,oT 84 .neq 83 1,MV 85 84,pc 86 85 2,pb 87 85 (.mkfn (Fn.func 78) 0) 13 17,pb 88
 85 (.call 77 true) 86 87,oX 89 85 (.un UnOp.not) 88,PT 90 85 89] (p7 90 (p9 [oF 6 9]))))))).seq (rv [oT 91 .add 57 1,MV 57 91])))).loop)).seq (p9 [oF 6 0])))))))
theorem GG:qK Tryz.prog 20 92 6 [RV.tmp 6] NA:=fi Tryz.f20 [3,27,9,11,13,17] Ap []
end
section
open Go Go.Proofs AF HY LN
namespace RC
theorem pc1(w:Wd)(c:Int)(s:Str)(h:JN):ACalls Tryz.prog 78 [.agg (wdC w),.ip [.int .i64 c],.ip [.str s]] h (.bool (decide (w.col=c)&&decide (w.text=s))) h:=by
 by_cases g:w.col=c
 ·have k1:(w.col=c)=True:=eqt g;rw[dqt g,Bool.true_and];refine acO HT ?_;simp (disch:=omega) only[NG,wdC,k1,go_sem]
  repeat' first|exact tF|with_reducible apply aiA|exact clz|fail
 ·have k1:(w.col=c)=False:=eqf g;rw[dqf g,Bool.false_and];refine acO HT ?_;simp (disch:=omega) only[NG,wdC,k1,go_sem]
  repeat' first|exact tF|with_reducible apply aiA|exact clz|fail
theorem Sz(b:List Wd)(c:Int)(s:Str)(k v k2 v2:Nat)(h:JN)(hk:qu k h=some (.mem v 3 [.int .i64 c]))(hk2:qu k2 h=some (.mem v2 9 [.str s]))(hn:b.length<=1000000000):
  ACalls Tryz.prog 77 [jl b,.fn (.func 78) [] [.op k v 0,.op k2 v2 0]] h (.bool (jm (λi=>decide ((b.getD i default).col=c)&&decide ((b.getD i default).text=s)) b.length)) h:=by
 have hc:=qJ hk;have hc2:=qJ hk2;unfold jl;refine W4 OA ⟨rfl,rfl⟩ ⟨rfl,rfl⟩ (y4 Gu b.length (λj=>wdC (b.getD j default)) (λj=> .agg (wdC (b.getD j default))) _ [] [.op k v 0,.op k2 v2 0] _ h (λi _=>⟨rfl,by simp[jK,wdC],rfl,rfl,rfl⟩) (λi _=> ?_) oma);refine ACalls.borrow ?_ rfl;have e:([AV.agg (wdC (b.getD i default))]++ [AV.op k v 0,AV.op k2 v2 0]).map (rei (λ_=>true) h 8)= [.agg (wdC (b.getD i default)),.ip [.int .i64 c],.ip [.str s]]:=by
  simp only[lca,lna,List.map_cons,List.map_nil,rei_op,if_true,hc,hc2,ipOf_some,List.drop_zero,rei_agg];rfl
 rw[lna,e];exact pc1 _ c s _
theorem CY{x:Co}{l:List Un}{w bef:Wd}{first:Bool}(h:wdE x l w bef first=0):0<=w.col∧w.col<x.col.length:=by
 unfold wdE at h;split at h
 ·cases h
 split at h
 ·cases h
 ·omega
theorem Ba{x:Co}{l:List Un}(ho:CoOk x)(hv:cvA x l=true){c:Nat}(hc:c<x.col.length)(hf:fnU l c<0):0<=(x.col.getD c []).getD 0 0∧(x.col.getD c []).getD 0 0<((x.tok.getD 0 []).length:Int):=by
 unfold cvA at hv;rw[Bool.not_eq_true',qq]at hv;have h1:=hv c hc;have h2:cvB l c=false:=by
  cases e:cvB l c with
  |false=>rfl
  |true=>
   unfold cvB at e;obtain⟨i,hi,hp⟩:=qP.1 e;rw[Bool.and_eq_true,decide_eq_true_iff,decide_eq_true_iff]at hp;exact absurd hp (tj hf hi)
 rw[h2,Bool.not_false,Bool.true_and,Bool.not_eq_false']at h1;unfold cmB at h1;rw[Bool.not_eq_true',qq]at h1;have h3:=h1 0 ho.sg.1;rw[Bool.or_eq_false_iff]at h3;have h4:clT x c 0≠none:=of_decide_eq_false h3.1;unfold clT at h4;split at h4
 ·exact absurd rfl h4
 ·rename_i g;rcases ho.ce c hc 0 ho.sg.1 with e|⟨_,e⟩
  ·omega
  ·exact⟨oma,e⟩
def cwA(b:List Wd)(i k:Nat):AV:= .int .i64 (cW b (k:Int) i:Int)
theorem NL(b:List Wd)(c:Int): ∀i,cW b c i<=i:=by
 intro i
 induction i with
 |zero=>exact nlr _
 |succ i ih=>unfold cW;split<;>omega
theorem Jv{b:List Wd}{i u n:Nat}(hu:u<n)(h:(b.getD i default).col=(u:Int)):List.take u (gC (cwA b i) n)++ [.int .i64 ((cW b (u:Int) i:Int)+1)]++List.drop (u+1) (gC (cwA b i) n)=gC (cwA b (i+1)) n:=by
 rw[Xr _ hu];refine wg λk hk=> ?_
 unfold cwA;have e:cW b (k:Int) (i+1)=cW b (k:Int) i+if (b.getD i default).col=(k:Int) then 1 else 0:=rfl
 rw[e]
 by_cases g:k=u
 ·subst g;rw[ipo rfl,ipo h];rfl
 ·rw[ine g,ine (by rw[h];omega)];rfl
theorem pvP(x:Co)(l:List Un)(b:List Wd)(h:JN)(hz:yv x)(hu:aM l)(hb:b.length<=1000000000)(ht: ∀i,(b.getD i default).text.length<=1000000000)(hp:kM SG h):
  ACalls Tryz.prog 20 [.agg (coC x),qZ l,jl b] h (.int .i64 (pvE x l b)) h:=by
 have c1:=λl'=>vaP x l (h++l') hz hu (hp.app l')
 obtain⟨R,hR⟩:=Qt (pvE x l b)
 rw[<-hR];unfold pvE at hR
 by_cases g:vaE x l=0
 case neg=>
  have k1:(vaE x l=0)=False:=eqf g;rw[ipo g]at hR;rw[hR];obtain⟨e,he⟩:=Qt (vaE x l)
  rw[<-he]at c1 k1 ⊢;unfold coC at c1;refine acO GG ?_;simp (disch:=omega) only[NA,coC,go_sem]
  repeat' first|(refine cA (c1 _) flk ?_;simp (disch:=omega) only[k1,go_sem])|exact tF|fail
 rw[ine (λhc=>hc g)]at hR;rw[g]at c1;unfold coC qn at c1;have hv:coE x=0∧vr x l=true∧cvA x l=true:=by
  unfold vaE at g;split at g
  ·cases g
  rename_i g1;split at g
  ·cases g
  rename_i g2;have g2:rgB x l=true:=by simpa using g2
  unfold rgB at g2;rw[Bool.and_eq_true]at g2;exact⟨Classical.not_not.1 g1,g2⟩
 have ho:=j6 hv.1;have hcl:=hz.cl;have k0:(0<=(x.col.length:Int))=True:=eqt oma;have k1:((x.col.length:Int)<=9223372036854775807)=True:=eqt oma;refine acO GG ?_;simp (disch:=omega) only[NA,coC,qn,jl,go_sem]
 repeat' first|(refine cA (c1 _) flk ?_;simp (disch:=omega) only[k0,go_sem])|with_reducible apply aiA|exact clz|fail
 all_goals try rw[itn]
 rw[gy];have e0:gC (λ_=>AV.int .i64 0) x.col.length=gC (cwA b 0) x.col.length:=wg λk _=>rfl
 rw[e0];refine qr (T:=λi:Nat×Nat×AObj=>qY 92 [(1,qZ l),(2,jl b),(3,.op h.length 1 0),(8,.osl (h.length+1) 1 1 0 x.col.length),(9,.op (h.length+2) i.2.1 0),(28,jl b),(29,.int .i64 b.length),(30,.int .i64 i.1)])
  (H:=λi=>h++ [.mem 1 26 (coC x),.mem 1 3 (gC (cwA b i.1) x.col.length),.mem i.2.1 133 (wdC (fL b i.1)),i.2.2,.emp 0,.emp 0])
  (inv:=λi=>i.1<=b.length∧qG [i.2.2] 0=true∧ ∀j,j<i.1->oW x l b j=0) (m:=λi=>b.length-i.1) (0,1,.emp 0) ⟨nzl _,rfl,λj hj=>absurd hj (nnz j)⟩ (Wk.temps ?_) ?_
 ·(simp only[jl,qZ,go_sem,qg,qc,qb,qf];try exact tT)
 rintro⟨i,v,O⟩ ⟨i1,i2,i3⟩ K hK;simp only at i1 i2 i3 hK;have i2': ∀m,qG (O::m) 0=true:=λ_=>i2
 by_cases hi:i<b.length
 ·have k2:((i:Int)<b.length)=True:=eqt oma;have hE:=kN (f:=oW x l b) hi i3;have hS:oW x l b i=0-> ∀j,j<i+1->oW x l b j=0:=λhx j hj=>by
   by_cases e:j=i
   ·subst e;exact hx
   ·exact i3 j oma
  have c2:=λh=>Um x l (b.getD i default) (fL b i) (decide (i=0)) h hu.n hcl (ht i)
  have hw:oW x l b i=wdE x l (b.getD i default) (fL b i) (decide (i=0)):=rfl;have hrg:= @CY x l (b.getD i default) (fL b i) (decide (i=0));have hbn:fL b (i+1)=b.getD i default:=by unfold fL;rw[ine oma,Nat.add_sub_cancel]
  have hcs:=λu=> @Jv b i u x.col.length
  have hle:=λc=>NL b c i
  have ei:decide ((i:Int)=0)=decide (i=0):=decide_eq_decide.2 oma;obtain⟨w,hwx⟩:=Qt (b.getD i default)
  have ew:=hwx.symm;obtain⟨w0,hw0⟩:=Qt (fL b i)
  have ew0:=hw0.symm;simp only[ew]at c2 hw hrg hbn hcs;simp only[ew0]at c2 hw hrg;rw[<-hw]at hrg;simp only[<-hw]at c2;obtain⟨e,he⟩:=Qt (oW x l b i)
  rw[<-he]at hE hS hrg;simp only[<-he]at c2;obtain⟨fb,hfb⟩:=Qt (decide (i=0))
  rw[<-hfb]at ei;simp only[<-hfb]at c2;unfold coC qn wdC at c2
  by_cases g1:e=0
  case neg=>
   have k3:(e=0)=False:=eqf g1;have hV:R=e:=by rw[hR,ipo (by rw[hE g1];exact g1),hE g1]
   rw[hV];simp (disch:=omega) only[coC,qn,jl,wdC,k2,ew,ew0,ei,i2',go_sem]
   repeat' first|(refine cA (c2 _) flk ?_;simp (disch:=omega) only[k3,go_sem])|exact tF|with_reducible apply aiA|exact clz|fail
  have k3:(e=0)=True:=eqt g1;obtain⟨r1,r2⟩:=hrg g1;obtain⟨u,hu'⟩: ∃u:Nat,w.col=(u:Int):=⟨w.col.toNat,oma⟩
  simp only[hu']at c2;have un:u<x.col.length:=by omega
  have t2:(0<=(u:Int))=True:=eqt oma;have t3:((u:Int)<x.col.length)=True:=eqt oma;have t4:(u<x.col.length)=True:=eqt un;have t5:(u+1<=x.col.length)=True:=eqt un;have gl:=km (cwA b i) x.col.length;have gg:=vS (g:=cwA b i) un;have hst:=hcs u un hu';have hle:=hle (u:Int);have hcw:cwA b i u= .int .i64 (cW b (u:Int) i:Int):=rfl;rw[hcw]at gg;obtain⟨q,hq⟩:=Qt (cW b (u:Int) i)
  rw[<-hq]at gg hst hle;have b2:((q:Int)+1<=9223372036854775807)=True:=eqt oma;have b3:(-9223372036854775808<=(q:Int)+1)=True:=eqt oma;simp (disch:=omega) only[coC,qn,jl,wdC,k2,ew,ew0,ei,i2',hu',Nat.zero_add,Option.isSome_some,go_sem]
  repeat' first|(refine cA (c2 _) flk ?_;simp (disch:=omega) only[k3,t2,t3,t4,t5,gl,gg,hst,Nat.mul_one,Nat.zero_add,Option.isSome_some,go_sem])|with_reducible apply aiA|exact clz|fail
  try rw[hst]
  refine hK _ _ (i+1,v,.mem (qo (some O)+1) 133 (wdC w)) ⟨hi,rfl,hS g1⟩ (by simp only;omega) ?_;simp only[hbn,wdC,hu'];refine Wk.temps ?_
  (simp only[jl,qZ,go_sem,qg,qc,qb,qf];try exact tT)
 have k2:((i:Int)<b.length)=False:=eqf oma;obtain rfl:i=b.length:=by omega
 have hn0:=zZ (f:=oW x l b) (λj (hj:j<b.length)=>i3 j hj);rw[ine (λhc=>hc hn0)]at hR;clear hK;obtain⟨w0,hw0⟩:=Qt (fL b b.length)
 have ew0:=hw0.symm;rw[ew0];simp (disch:=omega) only[coC,qn,jl,k2,i2',go_sem]
 repeat' first|with_reducible apply aiA|exact clz|fail
 obtain⟨cb,hcb⟩: ∃f:Nat->Int,f=M9 x l b:=⟨_,rfl⟩
 rw[<-hcb]at hR;have z0:((0:Nat):Int)=0:=rfl;have hto:0<x.tok.length:=by have:=ho.tn;have:=ho.sg;omega
 refine qr (T:=λi:Nat×AObj×AObj=>qY 92 [(1,qZ l),(2,jl b),(3,.op h.length 1 0),(8,.osl (h.length+1) 1 1 0 x.col.length),(55,qn x.col),(56,.int .i64 x.col.length),(57,.int .i64 i.1)])
  (H:=λi=>h++ [.mem 1 26 (coC x),.mem 1 3 (gC (cwA b b.length) x.col.length),.mem v 133 (wdC w0),O,i.2.1,i.2.2])
  (inv:=λi=>i.1<=x.col.length∧qG [i.2.1] 0=true∧qG [i.2.2] 0=true∧ ∀j,j<i.1->cb j=0) (m:=λi=>x.col.length-i.1) (0,.emp 0,.emp 0) ⟨nzl _,rfl,rfl,λj hj=>absurd hj (nnz j)⟩ (Wk.temps ?_) ?_
 ·(simp only[jl,qZ,qn,go_sem,qg,qc,qb,qf];try exact tT)
 rintro⟨i,O1,O2⟩ ⟨i1,j1,j2,j3⟩ K hK;simp only at i1 j1 j2 j3 hK;have j1': ∀m,qG (O1::m) 0=true:=λ_=>j1
 have j2': ∀m,qG (O2::m) 0=true:=λ_=>j2
 by_cases hi:i<x.col.length
 ·have k3:((i:Int)<x.col.length)=True:=eqt oma;have t2:(0<=(i:Int))=True:=eqt oma;have hE:=kN (f:=cb) hi j3;have hS:cb i=0-> ∀j,j<i+1->cb j=0:=λhx j hj=>by
   by_cases e:j=i
   ·subst e;exact hx
   ·exact j3 j oma
  have hci:cb i=if 0<=fnU l (i:Int) then 0 else if ccB x b i=true then 0 else 9:=by rw[hcb];rfl
  have hcc:ccB x b i=(decide (cW b (i:Int) b.length=1)&&jm (λj=>decide ((b.getD j default).col=(i:Int))&&decide ((b.getD j default).text=txA x i)) b.length):=rfl;have hto2:= @Ba x l ho hv.2.2 i hi;have eF:fnR l (i:Int)=fnU l (i:Int):=ine oma;have eE:fnE (i:Int)=0:=ine oma;have c3:=λh=>HW l (i:Int) h hu.n
  simp only[eF,eE]at c3;have htx:txA x i=((x.tok.getD 0 []).getD ((x.col.getD i []).getD 0 0).toNat default).text:=rfl;have hcl0:=ho.cl i hi;obtain⟨c,hcx⟩:=Qt (x.col.getD i [])
  have ec:=hcx.symm;rw[ec]at hto2 htx hcl0;obtain⟨t,htt⟩:=Qt (c.getD 0 0)
  have et:=htt.symm;rw[et]at hto2 htx;obtain⟨tk,htk⟩:=Qt (x.tok.getD 0 [])
  have etk:=htk.symm;rw[etk]at hto2 htx;obtain⟨p,hpx⟩:=Qt (fnU l (i:Int))
  rw[<-hpx]at hci hto2;simp only[<-hpx]at c3;unfold qZ at c3
  by_cases g1:0<=p
  ·have k4:(0<=p)=True:=eqt g1;rw[ipo g1]at hci;simp (disch:=omega) only[coC,qn,qZ,qx,k3,ec,j1',go_sem]
   repeat' first|(refine cA (c3 _) flk ?_;simp (disch:=omega) only[k4,go_sem])|with_reducible apply aiA|exact clz|fail
   refine hK _ _ (i+1,.mem (qo (some O1)+1) 3 [.int .i64 (i:Int)],O2) ⟨hi,rfl,j2,hS hci⟩ (by simp only;omega) (Wk.temps ?_)
   (simp only[jl,qZ,qn,go_sem,qg,qc,qb,qf];try exact tT)
  have k4:(0<=p)=False:=eqf g1;rw[ine g1]at hci;obtain⟨o1,o2⟩:=hto2 oma;have k5:(0<=t)=True:=eqt o1;have k6:(t<tk.length)=True:=eqt o2;have k7:((0:Int)<c.length)=True:=eqt (by have:=ho.sg;omega);have k8:((0:Int)<x.tok.length)=True:=eqt oma;obtain⟨tt,htt2⟩:=Qt (tk.getD t.toNat default)
  have ett:=htt2.symm;rw[ett]at htx;rw[htx]at hcc;have gl:=km (cwA b b.length) x.col.length;have gg:=vS (g:=cwA b b.length) hi;have hcw:cwA b b.length i= .int .i64 (cW b (i:Int) b.length:Int):=rfl;rw[hcw]at gg;have t4:(i<x.col.length)=True:=eqt hi;have t5:(i+1<=x.col.length)=True:=eqt hi;obtain⟨q,hq⟩:=Qt (cW b (i:Int) b.length)
  rw[<-hq]at gg hcc;have c4:=λv v2 H hk hk2=>Sz b (i:Int) tt.text (h.length+4) v (h.length+5) v2 H hk hk2 hb
  simp (disch:=omega) only[coC,qn,qZ,qx,k3,ec,j1',go_sem]
  repeat' first|(refine cA (c3 _) flk ?_;simp (disch:=omega) only[k4,go_sem])|with_reducible apply aiA|exact clz|fail
  refine jX ?T ?H ?h1 ?h2
  case h1=>
   simp (disch:=omega) only[qm,zR,tkC,k5,k6,k7,k8,et,etk,ett,j2',Int.toNat_zero,go_sem]
   repeat' first|with_reducible apply aiA
   all_goals first
    |omega
    |rfl
  case h2=>
  by_cases g2:q=1
  case neg=>
   have k9:((q:Int)=1)=False:=eqf oma;rw[dqf g2,Bool.false_and]at hcc;rw[hcc,ine (by simp)]at hci;have hV:R=9:=by rw[hR,hE (by rw[hci];decide),hci]
   rw[hV];simp (disch:=omega) only[k9,t2,t4,gl,gg,Nat.mul_one,Nat.zero_add,go_sem]
   repeat' first|(refine qj ( .bool false) ?_;simp (disch:=omega) only[go_sem])|exact tF|with_reducible apply aiA|exact clz|fail
  have k9:((q:Int)=1)=True:=eqt oma;rw[dqt g2,Bool.true_and]at hcc;have c4:=c4 (qo (some O1)+1) (qo (some O2)+1);obtain⟨B,hB⟩:=Qt (jm (λj=>decide ((b.getD j default).col=(i:Int))&&decide ((b.getD j default).text=tt.text)) b.length)
  rw[<-hB]at hcc;simp only[<-hB]at c4;unfold jl at c4;simp (disch:=omega) only[k9,t2,t4,gl,gg,Nat.mul_one,Nat.zero_add,jl,go_sem]
  repeat' first|with_reducible apply aiA|exact clz|fail
  refine cG (λ_=>c4 _ ?ka ?kb) (λ_=>by exact flk) ?_
  case ka=>simp only[go_sem]
  case kb=>simp only[go_sem]
  cases B with
  |false=>
   rw[hcc,ine (by simp)]at hci;have hV:R=9:=by rw[hR,hE (by rw[hci];decide),hci]
   rw[hV];simp (disch:=omega) only[go_sem]
   repeat' first|exact tF|fail
  |true=>
   rw[hcc,ipo rfl]at hci;simp (disch:=omega) only[go_sem];refine hK _ _ (i+1,.mem (qo (some O1)+1) 3 [.int .i64 (i:Int)],.mem (qo (some O2)+1) 9 [.str tt.text]) ⟨hi,rfl,rfl,hS hci⟩ (by simp only;omega) (Wk.temps ?_)
   (simp only[jl,qZ,qn,go_sem,qg,qc,qb,qf];try exact tT)
 ·have k3:((i:Int)<x.col.length)=False:=eqf oma;rw[zZ (λj (hj:j<x.col.length)=>j3 j oma)]at hR;rw[hR];simp (disch:=omega) only[coC,qn,k3,go_sem]
  repeat' first|exact tF|fail
end RC
end
section
open Go Go.Proofs AF
end
section
namespace Go.Proofs
open Go.Shelf Go.RowKit Go.Lib
end Go.Proofs
end
section
open Go Go.Proofs AF HY
namespace HY
end HY
end
section
open Go Go.Proofs AF HY LN
namespace HY
end HY
namespace RC
end RC
end
section
open Go Go.Proofs AF HY LN
namespace RC
end RC
end
section
open Go Go.Proofs AF
end
section
open Go Go.Proofs AF HY LN
namespace RC
def flG{α:Type}(p:Nat->Bool)(g:Nat->α):Nat->List α
 |0=> []
 |i+1=>flG p g i++if p i=true then [g i] else []
theorem F3{α:Type}{p:Nat->Bool}{g:Nat->α}{i:Nat}(hp:p i=true): ∀ {n:Nat},i<n-> ∃h:(flG p g i).length<(flG p g n).length,(flG p g n)[(flG p g i).length]=g i:=by
 intro n
 induction n with
 |zero=>intro h;exact absurd h (nnz _)
 |succ n ih=>
  intro hi
  by_cases e:i=n
  ·subst e;have e1:flG p g (i+1)=flG p g i++ [g i]:=by
    show flG p g i++(if p i=true then [g i] else [])=_;rw[ipo hp]
   refine⟨by rw[e1];simp,?_⟩;simp only[e1];rw[List.getElem_append_right (nlr _)];simp
  ·obtain⟨h1,h2⟩:=ih oma;have e1:flG p g (n+1)=flG p g n++(if p n=true then [g n] else []):=rfl;refine⟨by rw[e1,lap];omega,?_⟩;simp only[e1];rw[List.getElem_append_left h1];exact h2
theorem sN{α β:Type}(p:Nat->Bool)(g:Nat->α)(k:Nat->β): ∀n,(flG p g n).length=(flG p k n).length:=by
 intro n
 induction n with
 |zero=>rfl
 |succ n ih=>
  show (flG p g n++if p n=true then [g n] else []).length=(flG p k n++if p n=true then [k n] else []).length;rw[lap,lap,ih];split<;>rfl
theorem F4{α β:Type}{p:Nat->Bool}{g:Nat->α}{k:Nat->β}: ∀ {n i:Nat} (hi:i<(flG p g n).length),∃r,r<n∧p r=true∧(flG p g n)[i]=g r∧(flG p k n)[i]? =some (k r):=by
 intro n
 induction n with
 |zero=>intro i hi;exact absurd hi (nnz _)
 |succ n ih=>
  intro i hi;have e1:flG p g (n+1)=flG p g n++(if p n=true then [g n] else []):=rfl;have e2:flG p k (n+1)=flG p k n++(if p n=true then [k n] else []):=rfl;have el:=sN p g k n
  by_cases hl:i<(flG p g n).length
  ·obtain⟨r,r1,r2,r3,r4⟩:=ih hl;refine⟨r,oma,r2,?_,?_⟩
   ·simp only[e1];rw[List.getElem_append_left hl];exact r3
   ·rw[e2,List.getElem?_append_left oma];exact r4
  ·cases hp:p n with
   |false=>
    rw[e1,hp,ine (by simp),lan]at hi;exact absurd hi hl
   |true=>
    have hi2:i=(flG p g n).length:=by
     rw[e1,hp,ipo rfl,lap,List.length_singleton]at hi;omega
    refine⟨n,oma,hp,?_,?_⟩
    ·simp only[e1,hp,if_true];rw[List.getElem_append_right oma];simp[hi2]
    ·rw[e2,hp,ipo rfl,List.getElem?_append_right oma];simp[hi2,el]
deriving instance DecidableEq for Va
deriving instance DecidableEq for En
def tkS(s:Str):Tk:=⟨s,s,[],0,0,[]⟩
end RC
end
section
namespace AF
open Go
end AF
end
