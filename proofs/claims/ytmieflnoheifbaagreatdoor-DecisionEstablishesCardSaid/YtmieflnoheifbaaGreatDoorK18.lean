import Derived.Test.YtmieflnoheifbaaGreatDoorK17
import Derived.Test.YtmieflnoheifbaaGreatDoorK3
import Derived.Test.YtmieflnoheifbaaGreatDoorK5
import Derived.Test.YtmieflnoheifbaaGreatDoorK8
import Derived.Test.YtmieflnoheifbaaGreatDoorProg
import Derived.Test.YtmieflnoheifbaaGreatDoorK14
import Derived.Test.YtmieflnoheifbaaGreatDoorK16
import Derived.Test.YtmieflnoheifbaaGreatDoorK12
import Derived.Test.YtmieflnoheifbaaGreatDoorK9
set_option linter.all false
set_option maxHeartbeats 128000000
set_option maxRecDepth 100000
section
open Go Go.Proofs AF HY LN
namespace RC
theorem qCT(h:wh)(k:Nat)(hk:qz h k=true):ACalls Tryz.prog 71 [.el] h (.osl k (qo (qu k h)+1) 3 0 0) (qt k h (.mem (qo (qu k h)+1) 39 [])):=by
 refine qfo qtr k (by simp) ?_;simp only[lco,lnl,Nat.reduceAdd,Nat.reduceSub,List.replicate,lca,lna];simp (disch:=omega) only[qCe,go_sem]
 repeat' first|(with_reducible apply aiA)
 all_goals first
  |omega
  |contradiction
  |skip
 all_goals try rfl
 exact⟨h.length+1,2,3,0,0,39,[],_,⟨trivial,trivial⟩,rfl,rfl,om,by simp only[go_sem],(λc hc=>by cases hc),hk,rfl,rfl⟩
theorem qC6(x:Co)(d:List Dc)(s:Int)(h:wh)(hz:qbd x)(hp:cb SG h)(hg:jf h frmN frmC)(hd:d.length<=1000000)(ht: ∀o∈d,o.txt.length<=1000)(hN0:vaE x []=0->(rwA x [] d s.toNat).length<=1000000000):
  ACalls Tryz.prog 17 [.agg (coC x),.el,kz d,.int .i64 s] h (.tup [kq (esR x [] d s),.int .i64 (esE x [] d s)]) h:=by
 have hu:qcS []:=⟨by simp,λi=>by simp;exact nzl _,λi j=>by simp;exact nzl _,λi j=>by simp;exact nzl _⟩
 have c1:=λl'=>(qsT x [] (h++l') hz hu (hp.app l')).le (args:= [.agg (coC x),.el]) ⟨qi,qq3,trivial⟩ (qi)
 have zu: ∀g l,valL g .len [qZ l]= .int .i64 l.length:=λ_ _=>rfl
 have zv: ∀g l,okL g .len [qZ l]=True:=λ_ _=>eqt trivial
 have zu1: ∀g l,valL g .len [strs l]= .int .i64 l.length:=λ_ _=>rfl
 have zv1: ∀g l,okL g .len [strs l]=True:=λ_ _=>eqt trivial
 have hE:esE x [] d s=(if vaE x []≠0 then vaE x [] else if s<0∨(x.sig.length:Int)<=s then 2 else if UY x [] d≠0 then UY x [] d else if 1024<(rwA x [] d s.toNat).length then 4 else 0):=rfl;unfold esR
 by_cases g:vaE x []=0
 case neg=>
  have k1:(vaE x []=0)=False:=eqf g;rw[ipo g]at hE;rw[hE,ine g];unfold coC at c1;refine acO qan ?_;simp (disch:=omega) only[qfj,coC,go_sem]
  repeat' first|(refine cA (c1 _) flk ?_;simp (disch:=omega) only[k1,go_sem])|(apply qb;exact rvk;simp only[go_sem])
  exact VLe.tup ⟨qU,qi,trivial⟩
 rw[ine (by simpa using g)]at hE;have hN:=hN0 g;simp only[g]at c1;obtain⟨hca,hus,hcv⟩:=qdl g;have ho:=qag hca
 by_cases g2:s<0
 ·have k2:(s<0)=True:=eqt g2;rw[ipo (.inl g2)]at hE;rw[hE,ine (by decide)];unfold coC at c1;refine acO qan ?_;simp (disch:=omega) only[qfj,coC,go_sem]
  repeat' first|(refine cA (c1 _) flk ?_;simp (disch:=omega) only[k2,go_sem])|(apply qb;exact rvk;simp only[go_sem])
  exact VLe.tup ⟨qU,qi,trivial⟩
 have k2:(s<0)=False:=eqf g2
 by_cases g3:(x.sig.length:Int)<=s
 ·have k3:((x.sig.length:Int)<=s)=True:=eqt g3;rw[ipo (.inr g3)]at hE;rw[hE,ine (by decide)];unfold coC at c1;refine acO qan ?_;simp (disch:=omega) only[qfj,coC,go_sem]
  repeat' first|(refine cA (c1 _) flk ?_;simp (disch:=omega) only[k2,k3,zu1,zv1,go_sem])|(apply qb;exact rvk;simp only[go_sem])
  exact VLe.tup ⟨qU,qi,trivial⟩
 have k3:((x.sig.length:Int)<=s)=False:=eqf g3;rw[ine (λe=>e.elim g2 g3)]at hE;have c2:=λl'=>(qDT x [] d (h++l') hz hu (hp.app l') hg.app hca hd ht).le (args:= [.agg (coC x),.el,kz d]) ⟨qi,qq3,qi,trivial⟩ (qi)
 unfold qAE at c2
 by_cases g4:UY x [] d=0
 case neg=>
  have k4:(UY x [] d=0)=False:=eqf g4;simp only[ine g4]at c2;rw[ipo g4]at hE;rw[hE,ine g4];unfold coC at c1 c2;refine acO qan ?_;simp (disch:=omega) only[qfj,coC,go_sem]
  repeat' first|((first|refine cA (c1 _) ?_ ?_|refine cA (c2 _) ?_ ?_);exact flk;simp (disch:=omega) only[k2,k3,k4,zu1,zv1,go_sem])|(apply qb;exact rvk;simp only[go_sem])|with_reducible apply aiA|exact clz|fail
  exact VLe.tup ⟨qU,qi,trivial⟩
 rw[ine (by simpa using g4)]at hE;simp only[g4,if_true]at c2;rw[hE];unfold coC at c1 c2;refine acO qan ?_;simp (disch:=omega) only[qfj,coC,go_sem]
 repeat' first|((first|refine cA (c1 _) ?_ ?_|refine cA (c2 _) ?_ ?_);exact flk;simp (disch:=omega) only[k2,k3,zu1,zv1,go_sem])|with_reducible apply aiA|exact clz|fail
 have hd0:d= []:=by
  cases d with
  |nil=>rfl
  |cons o r=>
   exfalso
   have:=g4
   unfold UY at this;split at this
   ·cases this
   ·have h0:=jW.1 this 0 (by simp);have h1:=(qap h0).2.2.2.2.1;have h2:kQ x [] ((o::r).getD 0 default)= -1:=rfl;omega
 subst hd0;have zi: ∀g l,valL g .len [qx l]= .int .i64 l.length:=λ_ _=>rfl
 have zj: ∀g l,okL g .len [qx l]=True:=λ_ _=>eqt trivial
 have ePL:(plG x [] [] ([]:List Dc).length).length=0:=rfl;refine qE (qAW (j:=h.length+2) (-1) (List.drop 1 (zM [.int .i64 0] 1)) ?j1) (by exact flk) ?_
 case j1=>simp only[go_sem]
 simp (disch:=omega) only[zi,zj,go_sem];refine qk (T:=λ_:Unit=>qP 154 [(1,.el),(3,.int .i64 s),(4,.op h.length 1 0),(13,qx []),(56,.int .i64 0),(57,.int .i64 0)])
  (H:=λ_=>h++ [.mem 1 26 [.str x.sec,strs x.sig,qn x.tok,qv x.col],.emp 1,.emp 2,.emp 0,.emp 0,.emp 0,.emp 0,.emp 0,.emp 0,.emp 0,.emp 0,.emp 0,.emp 0,.emp 0,.emp 0,.emp 0])
  (inv:=λ_=>True) (m:=λ_=>0) () trivial (Wk.temps ?_) ?_
 ·(simp only[go_sem,qf,qc,qa,qe];try exact we)
 rintro⟨⟩-K hK;have q1:((0:Int)<0)=False:=wl;simp (disch:=omega) only[q1,go_sem];refine⟨_,_,Wk.ownNil (j:=h.length+3) (i:=0) (k:=h.length+15) (v:=1) (ty:=45) (cs:= [.nl]) (ve:=0) (sz:=7) ?m1 rfl ?m2,?_⟩
 case m1=>simp only[go_sem]
 case m2=>simp only[go_sem]
 simp (disch:=omega) only[List.set_cons_zero,go_sem];have bne5:(h.length+14 !=h.length+5)=true:=by simp
 have zc: ∀g l,valL g .len [qv l]= .int .i64 l.length:=λ_ _=>rfl
 have zd: ∀g l,okL g .len [qv l]=True:=λ_ _=>eqt trivial
 refine kl ?T ?H ?h1 ?h2
 case h1=>
  simp (disch:=omega) only[zc,zd,go_sem]
  repeat' first|(with_reducible apply aiA)|(refine qE (qCT _ (h.length+14) (by simp only[go_sem])) (by exact flk) ?_;simp (disch:=omega) only[zc,zd,go_sem])
  all_goals first
   |omega
   |rfl
   |exact bne5
 case h2=>
 simp (disch:=omega) only[go_sem];obtain⟨S,hS⟩: ∃S:Nat,s=S:=⟨s.toNat,om⟩
 subst hS;rw[itn]at hN ⊢;have hSl:S<x.sig.length:=by omega
 obtain⟨MC,hMC⟩:=wg ( [AV.int .i64 x.col.length,.int .i64 x.col.length,.nl])
 rw[<-hMC];obtain⟨O5,hO5⟩:=wg (AObj.mem 1 39 (AV.int .i64 x.col.length:: .int .i64 x.col.length:: .nl::List.drop 3 (zM [.int .i64 0,.int .i64 0,.nl] 1)))
 rw[<-hO5];obtain⟨X0,hX0⟩:=wg (AObj.mem 1 26 [.str x.sec,strs x.sig,qn x.tok,qv x.col])
 have lX0: ∀n,lowO n X0:=by
  intro n;rw[hX0];intro c hc;simp at hc;rcases hc with rfl|rfl|rfl|rfl<;>rfl
 refine qk (T:=λi:EsS=>qP 154 [(1,.el),(3,.int .i64 (S:Int)),(4,.op h.length 1 0),(13,qx []),(16,.op (h.length+3) 1 0),(17,.op (h.length+4) 1 0),(18,.int .i64 (nxT x [] i.k:Int)),(78,.osl (h.length+14) 2 3 0 1),(79,.int .i64 1),(80,.int .i64 i.k)])
  (H:=λi=>h++ [.mem 1 26 [.str x.sec,strs x.sig,qn x.tok,qv x.col],.emp 1,.emp 2,.mem 1 45 [.osl (h.length+15) i.vb 7 0 (rwK x [] [] S i.k).length],.mem 1 135 [.fn (.func 69) [] [.op (h.length+3) 1 0]],O5,.emp 0,i.O7,i.O8,i.O9,i.O10,i.O11,i.O12,.emp 0,.mem 2 39 MC,zw i.vb 133 (zG (bsW (rwK x [] [] S i.k)))])
  (inv:=λi=>i.k<=1∧ ∀O∈ [i.O7,i.O8,i.O9,i.O10,i.O11,i.O12],qz [O] 0=true∧ ∀n,lowO n O) (m:=λi=>1-i.k) ⟨0,0,.emp 0,.emp 0,.emp 0,.emp 0,.emp 0,.emp 0⟩ ⟨nzl _,λO hO=>by
   simp at hO;subst hO;exact⟨rfl,λ_=>trivial⟩⟩ (Wk.temps ?_) ?_
 ·(simp only[go_sem,qf,qc,qa,qe];try (repeat' first|(with_reducible apply aiA)|(apply qg;omega)|(apply qd;rfl)|exact qi))
  done
 rintro⟨k,vb,O7,O8,O9,O10,O11,O12⟩ ⟨i1,i2⟩ K hK;simp only at i1 i2 hK;obtain⟨s7,l7⟩:=i2 O7 (by simp);obtain⟨s8,l8⟩:=i2 O8 (by simp);obtain⟨s9,l9⟩:=i2 O9 (by simp);obtain⟨s10,l10⟩:=i2 O10 (by simp);obtain⟨s11,l11⟩:=i2 O11 (by simp);obtain⟨s12,l12⟩:=i2 O12 (by simp);have s7': ∀m,qz (O7::m) 0=true:=λ_=>s7
 have s8': ∀m,qz (O8::m) 0=true:=λ_=>s8
 by_cases hk:k<=0
 case neg=>
  have q1:((k:Int)<(1:Int))=False:=wl;have eR:rwK x [] [] S k=rwA x [] [] S:=by unfold rwK;rw[lnl,ine hk]
  rw[eR]
  by_cases g5:1024<(rwA x [] [] S).length
  ·have q5:((1024:Int)<(rwA x [] [] S).length)=True:=wj;simp only[ipo g5];simp (disch:=omega) only[q1,q5,go_sem]
   repeat' first|(apply qb;exact rvk;simp only[go_sem])|with_reducible apply aiA|exact clz|fail
   exact VLe.tup ⟨qU,qi,trivial⟩
  ·have q5:((1024:Int)<(rwA x [] [] S).length)=False:=wl;simp only[ine g5];simp (disch:=omega) only[q1,q5,go_sem]
   repeat' first|(apply qb;exact rvk;simp only[go_sem])|with_reducible apply aiA|exact clz|fail
   exact VLe.tup ⟨qdX (jx _).symm,qi,trivial⟩
 have q1:((k:Int)<(1:Int))=True:=wj;have q2:(0<=(k:Int))=True:=wj;have hk0:k=0:=by omega
 have hMl:MC.length=3:=by rw[hMC];rfl
 have q3:(k*3+3<=MC.length)=True:=wj;have eR:rwK x [] [] S k=rwL x [] [] S k:=by unfold rwK;rw[lnl,ipo hk]
 have eN:nxT x [] k=jq [] k:=by unfold nxT;rw[lnl,ipo hk]
 rw[eR,eN];obtain⟨f,hf⟩:=wg x.col.length
 obtain⟨t',ht'⟩:=wg x.col.length
 obtain⟨RV,hRV⟩:=wg AV.nl
 have eM:List.take 3 (List.drop (k*3) MC)= [.int .i64 (f:Int),.int .i64 (t':Int),RV]:=by rw[hk0,hMC,hf,ht',hRV];rfl
 have a5:jq [] k<=f:=by rw[hk0];exact nzl _
 have a6:f<=x.col.length:=by omega
 have lRV: ∀n,qV n RV=true:=λn=>by rw[hRV];rfl
 have c3:=λh=>qBg x (jq [] k) f S h
 have hit:=itS x S (jq [] k) f hz ho hSl a6 a5;have hpF:=UW ho hSl (f:=jq [] k) (d:=f-jq [] k) om;obtain⟨ps,hps⟩:=wg (spk x S (jq [] k) (f-jq [] k))
 have hxl:(spX x S (jq [] k) (f-jq [] k))=ps.map λp=> [.agg (pcC p)]:=by unfold spX;rw[hps]
 rw[hxl]at hit;rw[<-hps]at hpF;unfold coC at c3 hit;simp (disch:=omega) only[q1,q2,q3,eM,s7',s8',go_sem]
 repeat' first|(refine cA (c3 _) flk ?_;simp (disch:=omega) only[go_sem])|with_reducible apply aiA|exact clz|fail
 obtain⟨L0,hL0⟩:=wg (rwL x [] [] S k)
 have hLF: ∀r∈L0,PcF r.p:=by rw[hL0];exact qfR ho hus hSl (λi hi=>absurd hi (by simp)) hk
 have hLn:(L0++rwM ps (-1) (-1)).length<=1000000000:=by
  refine Nat.le_trans ?_ hN;rw[hL0,hps,hf,hk0];exact nlr _
 rw[<-hL0];obtain⟨P7,hP7⟩:=wg (AObj.mem (qo (some O7)+1) 3 [.int .i64 (k:Int)])
 obtain⟨P8,hP8⟩:=wg (AObj.mem (qo (some O8)+1) 39 [.int .i64 (f:Int),.int .i64 (t':Int),RV])
 have hP7l:qz [P7] 0=true∧ ∀n,lowO n P7:=by
  rw[hP7];refine⟨rfl,λn c hc=> ?_⟩;rw[List.mem_singleton]at hc;subst hc;rfl
 have hP8l:qz [P8] 0=true∧ ∀n,lowO n P8:=by
  rw[hP8];refine⟨rfl,λn c hc=> ?_⟩;simp only[List.mem_cons,List.not_mem_nil,or_false]at hc;rcases hc with rfl|rfl|rfl
  ·rfl
  ·rfl
  ·exact lRV n
 have cP7: ∀m,cellsOf (P7::m) 0 (qo (some O7)+1)=some [.int .i64 (k:Int)]:=λm=>by rw[hP7];simp only[go_sem]
 rw[<-hP7,<-hP8];have lP: ∀L:List Rw,∀v n,lowO n (zw v 133 (zG (bsW L))):=λL v n=>jE (qcd _ n)
 have hLow: ∀(L M:List Rw) (v w:Nat) O A,(∀n,lowO n A)->LowI (h++ [.mem 1 26 [.str x.sec,strs x.sig,qn x.tok,qv x.col],.emp 1,.emp 2,.mem 1 45 [.osl (h.length+15) w 7 0 M.length],.mem 1 135 [.fn (.func 69) [] [.op (h.length+3) 1 0]],O5,.emp 0,P7,P8,O,O10,O11,O12,.emp 0,.mem 2 39 MC,zw w 133 (zG (bsW M))])
   (h++ [.mem 1 26 [.str x.sec,strs x.sig,qn x.tok,qv x.col],.emp 1,.emp 2,.mem 1 45 [.osl (h.length+15) v 7 0 L.length],.mem 1 135 [.fn (.func 69) [] [.op (h.length+3) 1 0]],O5,.emp 0,P7,P8,A,O10,O11,O12,.emp 0,.mem 2 39 MC,zw v 133 (zG (bsW L))]):=λL M v w O A lA=>by
  refine⟨by simp,λo ho=> ?_⟩;rcases List.mem_append.1 ho with h1|h1
  ·exact .inl (List.mem_append_left _ h1)
  ·simp only[List.mem_cons,List.not_mem_nil,or_false]at h1;rcases h1 with rfl|rfl|rfl|rfl|rfl|rfl|rfl|rfl|rfl|rfl|rfl|rfl|rfl|rfl|rfl|rfl
   ·left;simp
   ·left;simp
   ·left;simp
   ·right;refine⟨λc hc=> ?_,λc hc=> ?_⟩<;>
    ·rw[List.mem_singleton]at hc;subst hc;simp[qV]
     try omega
   ·left;simp
   ·left;simp
   ·left;simp
   ·left;simp
   ·left;simp
   ·right;exact⟨lA _,lA _⟩
   ·left;simp
   ·left;simp
   ·left;simp
   ·left;simp
   ·left;simp
   ·right;exact⟨lP _ _ _,lP _ _ _⟩
 refine zJ hit (λa ha=> ?_)
  (S:=λi hh=> ∃A,qz [A] 0=true∧(∀n,lowO n A)∧hh=h++ [.mem 1 26 [.str x.sec,strs x.sig,qn x.tok,qv x.col],.emp 1,.emp 2,.mem 1 45 [.osl (h.length+15) (vb+i) 7 0 (L0++rwM (ps.take i) (-1) (-1)).length],.mem 1 135 [.fn (.func 69) [] [.op (h.length+3) 1 0]],O5,.emp 0,P7,P8,A,O10,O11,O12,.emp 0,.mem 2 39 MC,zw (vb+i) 133 (zG (bsW (L0++rwM (ps.take i) (-1) (-1))))]) (E:=λ_ _=>False) ?_ ?_ ?_ ?_ ?_ ?_ ?_
 ·obtain⟨c,_,rfl⟩:=List.mem_map.1 ha;rfl
 ·rintro i hh ⟨A,_,lA,rfl⟩;exact hLow _ _ _ _ _ _ lA
 ·intro s hh hf;exact hf.elim
 ·exact⟨O9,s9,l9,by simp[rwM]⟩
 ·simp[qV,qV.lowVs]
  repeat' apply aiA
  all_goals first|rfl|omega|exact lRV _
 ·rintro i hh tl LI TS hi ⟨A,sA,lA,rfl⟩ hlen K1 K2 hK1 hN1 hR1 hX1;have hi':i<ps.length:=by rw[List.length_map]at hi;exact hi
  rw[List.getElem_map];have sA': ∀m,qz (A::m) 0=true:=λ_=>sA
  have hS:L0++rwM (ps.take (i+1)) (-1) (-1)=(L0++rwM (ps.take i) (-1) (-1))++ [⟨ps.getD i default,-1,-1⟩]:=by
   unfold rwM;rw[List.take_add_one,zD hi',List.map_append,gdqA,zD hi',List.append_assoc];rfl
  have eG:ps[i]=ps.getD i default:=by rw[gdqA,zD hi'];rfl
  rw[eG];have hpm:ps.getD i default∈ps:=zS hi';obtain⟨p,hp'⟩:=wg (ps.getD i default)
  rw[<-hp']at hS hpm ⊢;obtain⟨M,hM⟩:=wg (L0++rwM (ps.take i) (-1) (-1))
  have hMF: ∀r∈M,PcF r.p:=λr hr=>by
   rw[hM]at hr;rcases List.mem_append.1 hr with hr|hr
   ·exact hLF r hr
   ·exact hpF _ (List.mem_of_mem_take (cF.1 hr).1)
  have hMn:M.length<=1000000000:=by
   rw[hM,lap,jr,List.length_take];rw[lap,jr]at hLn;omega
  rw[<-hM]at hS ⊢;simp only[kN,List.append_assoc,lca,lna];simp (disch:=omega) only[sA',pcC,tkC,go_sem];refine hK1 _ _ (h++ [.mem 1 26 [.str x.sec,strs x.sig,qn x.tok,qv x.col],.emp 1,.emp 2,.mem 1 45 [.osl (h.length+15) (vb+i) 7 0 M.length],.mem 1 135 [.fn (.func 69) [] [.op (h.length+3) 1 0]],O5,.emp 0,P7,P8,(.mem (qo (some A)+1) 131 (pcC p)),O10,O11,O12,.emp 0,.mem 2 39 MC,zw (vb+i) 133 (zG (bsW M))]) ?_ ?_ ?_
  ·simp[pcC,tkC]
  ·simp
  ·simp only[List.append_assoc,lca,lna];simp (disch:=omega) only[pcC,tkC,go_sem]
   repeat' first|with_reducible apply aiA|exact clz|fail
   refine kC (qvR (a:=h.length+3) (b:=h.length+15) (c:=h.length) (va:=1) (vb:=vb+i) (Z:= .mem 1 26 [.str x.sec,strs x.sig,qn x.tok,qv x.col]) ⟨by simp,by simp,by simp,om,om,om⟩ M p (-1) (-1) (by simp only[go_sem]) (by simp only[go_sem]) (by simp only[go_sem]) (by rw[<-hX0];exact lX0) (hpF p hpm) hMn hMF) ?_;simp (disch:=omega) only[go_sem];refine hN1 _ _ (h++ [.mem 1 26 [.str x.sec,strs x.sig,qn x.tok,qv x.col],.emp 1,.emp 2,.mem 1 45 [.osl (h.length+15) (vb+(i+1)) 7 0 (M++ [(⟨p,-1,-1⟩:Rw)]).length],.mem 1 135 [.fn (.func 69) [] [.op (h.length+3) 1 0]],O5,.emp 0,P7,P8,(.mem (qo (some A)+1) 131 (pcC p)),O10,O11,O12,.emp 0,.mem 2 39 MC,zw (vb+(i+1)) 133 (zG (bsW (M++ [(⟨p,-1,-1⟩:Rw)])))]) ?_ ?_ ⟨_,rfl,?_,by rw[hS]⟩
   ·simp[pcC,tkC,Nat.add_assoc]
   ·simp
   ·intro n c hc;simp[pcC,tkC]at hc;rcases hc with rfl|rfl|rfl|rfl|rfl|rfl|rfl<;>rfl
 ·rintro hh ⟨A,sA,lA,rfl⟩;rw[List.length_map,List.take_length];obtain⟨L1,hL1⟩:=wg (L0++rwM ps (-1) (-1))
  rw[<-hL1]
  by_cases hkl:k<0
  case neg=>
   have hke:k=0:=by omega
   obtain⟨b1,b2⟩:f=x.col.length∧t'=x.col.length:=⟨hf,ht'⟩
   have q4:((k:Int)=0)=True:=wj;rw[hP7,hP8];simp (disch:=omega) only[q4,go_sem]
   repeat' first|with_reducible apply aiA|exact clz|fail
   rw[<-hP7,<-hP8];have e1:rwK x [] [] S (k+1)=L1:=by
    unfold rwK;rw[ine (by simp),hL1,hL0,hps,b1,hke];rfl
   have e2:nxT x [] (k+1)=t':=by unfold nxT;rw[ine (by simp),b2]
   refine hK _ _ ⟨k+1,vb+ps.length,P7,P8,A,O10,O11,O12⟩ ⟨by simp only;omega,λO hO=> ?_⟩ (by simp only;omega) ?_
   ·simp only[List.mem_cons,List.not_mem_nil,or_false]at hO;rcases hO with rfl|rfl|rfl|rfl|rfl|rfl
    ·exact hP7l
    ·exact hP8l
    ·exact⟨sA,lA⟩
    ·exact⟨s10,l10⟩
    ·exact⟨s11,l11⟩
    ·exact⟨s12,l12⟩
   ·simp only[e1,e2];refine Wk.temps ?_
    (simp only[go_sem,qf,qc,qa,qe];try exact we)
  exact absurd hkl (nnz k)
 ·intro e hh hf;exact hf.elim
theorem qx1(x:Co)(l:List Un)(d:List Dc)(s:Int)(h:wh)(hz:qbd x)(hu:qcS l)(hp:cb SG h)(hg:jf h frmN frmC)(hd:d.length<=1000000)(ht: ∀o∈d,o.txt.length<=1000)(hN0:vaE x l=0->(rwA x l d s.toNat).length<=1000000000):
  ACalls Tryz.prog 17 [.agg (coC x),qZ l,kz d,.int .i64 s] h (.tup [kq (esR x l d s),.int .i64 (esE x l d s)]) h:=by
 cases l with
 |nil=>exact ACalls.sl0 (pre:= [.agg (coC x)]) (post:= [kz d,.int .i64 s]) (qC5 x d s h hz hp hg hd ht hN0) (qC6 x d s h hz hp hg hd ht hN0)
 |cons u r=>exact qFB x (u::r) d s h hz hu hp hg (List.cons_ne_nil _ _) hd ht hN0
end RC
end
section
open Go Go.Proofs AF
def qfK:List Nat:= []
def qwm:C:=
 (vU [⟨some 2,none,.alloc 0 119 [.str [],.str [],.str [],i6 0,i6 0,.str []],[]⟩] (vX [MV 3 0,MV 4 0,⟨some 5,none,.build [.str [],.str [],.str [],i6 0,i6 0,.str []]
 [(0,1),(1,1)],[.t 3,.t 4]⟩,ST 6 2 5]))
theorem qym:qG Tryz.prog 159 6 1 [RV.cell 2 (some 6)] qwm:=fi Tryz.f159 [2] qfK []
def qEM:C:=
 (vU [⟨some 0,none,.alloc 0 26 [.str [],.nl,.nl,.nl],[]⟩] (vX [⟨some 1,none,.bslc 1 1 2 9 [.str []] [(0,1),(1,1)],[.c (.str [65]),.c (.str [66])]⟩,ON 2 (.call 159 true) [.c (.str
 [100,101,117,115])],ON 3 (.call 159 true) [.c (.str [101,115,116])],ON 4 (.call 159 true) [.c (.str [98,111,110,117,115])],⟨some 5,none,.bslc 2 6 3 119 [.str [],.str [],.str
 [],i6 0,i6 0,.str []] [(0,6),(6,6),(12,6)],[.t 2,.t 3,.t 4]⟩,ON 6 (.call 159 true) [.c (.str [100,101,117,115])],ON 7 (.call 159 true) [.c (.str [98,111,110,117,115])],⟨some
 8,none,.bslc 3 6 2 119 [.str [],.str [],.str [],i6 0,i6 0,.str []] [(0,6),(6,6)],[.t 6,.t 7]⟩,⟨some 9,none,.bslc 4 1 2 115 [.nl] [(0,1),(1,1)],[.t 5,.t 8]⟩,⟨some 10,none,.bslc
 5 1 2 3 [i6 0] [(0,1),(1,1)],[.c (i6 0),.c (i6 0)]⟩,⟨some 11,none,.bslc 6 1 2 3 [i6 0] [(0,1),(1,1)],[.c (i6 1),.c (i6 (-1))]⟩,⟨some 12,none,.bslc 7 1 2 3 [i6 0]
 [(0,1),(1,1)],[.c (i6 2),.c (i6 1)]⟩,⟨some 13,none,.bslc 8 1 3 51 [.nl] [(0,1),(1,1),(2,1)],[.t 10,.t 11,.t 12]⟩,⟨some 14,none,.build [.str [],.nl,.nl,.nl]
 [(0,1),(1,1),(2,1),(3,1)],[.c (.str [97]),.t 1,.t 9,.t 13]⟩,ST 4 0 14]))
theorem qDm:qG Tryz.prog 83 15 9 [RV.cell 0 (some 4)] qEM:=fi Tryz.f83 [0,1,5,8,9,10,11,12,13] qfK []
def qwN:C:=
 (vU [O1 1 (.box 0 59) 0,MC 2 (.bool false)] (vX [vN 3 0 1,O1 4 (.load (some 4)) 3,O1 5 (.call 9 true) 4,MV 6 5,v7 7 6 4 1,v8 8 6 7,vQ 9 6 (.call 82 true) 8,PT 10 6 9,MV 11 10,v7
 12 11 5 1,v8 13 11 12,vQ 14 11 (.call 31 true) 13,PT 15 11 14,MV 2 15]))
theorem qo0:qG Tryz.prog 24 16 1 [RV.tmp 2] qwN:=fi Tryz.f24 [1] qfK []
end
section
open Go Go.Proofs AF
def qtH:List Nat:= [17]
def qEB:C:=
 (vU [MC 0 (.bool false)] (vU [ON 10 (.call 83 true) [],O1 11 (.call 12 true) 10,MV 9 11,O1 12 (.ext 0) 9,O1 13 (.ext 1) 9,MV 1 12,MV 2 13] (vU [ON 15 (.call 83 true) [],MV 16
 1,ON 17 (.call 17 false) [.t 15,.t 16,.c .nl,.c (i6 0)],MV 14 17,O1 18 (.ext 0) 14,O1 19 (.ext 1) 14,MV 3 18,MV 4 19] (vU [ON 21 (.call 83 true) [],MV 22 1,⟨some 23,none,.build
 [i6 0,.str [],i6 0,.str []] [(0,1),(1,1),(2,1)],[.c (i6 3),.c (.str [65]),.c (i6 1)]⟩,⟨some 24,none,.bslc 0 4 1 65 [i6 0,.str [],i6 0,.str []] [(0,4)],[.t 23]⟩,ON 25 (.call 17
 false) [.t 21,.t 22,.t 24,.c (i6 0)],MV 20 25,O1 26 (.ext 0) 20,O1 27 (.ext 1) 20,MV 5 26,MV 6 27] (vU [ON 29 (.call 83 true) [],MV 30 1,⟨some 31,none,.build [i6 0,.str [],i6
 0,.str []] [(0,1),(1,1),(2,1),(3,1)],[.c (i6 2),.c (.str [65]),.c (i6 1),.c (.str [118,101,114,101,44,32,101,116])]⟩,⟨some 32,none,.bslc 1 4 1 65 [i6 0,.str [],i6 0,.str []]
 [(0,4)],[.t 31]⟩,ON 33 (.call 17 false) [.t 29,.t 30,.t 32,.c (i6 0)],MV 28 33,O1 34 (.ext 0) 28,O1 35 (.ext 1) 28,MV 7 34,MV 8 35] ((vU [MV 36 2,MV 37 4,MV 38 6,MV 39 8,ON 40
 (.mm true) [.t 36,.t 37,.t 38,.t 39],vP 41 .neq 40 0,MV 42 41,vS 43 42 7,vQ 44 42 .len 43,vT 45 42 (.bin .neq) 44 (i6 5),PT 46 42 45] (vV 46 (vX [MC 0 (.bool false)]))).seq (vX
 [MV 47 3,O1 48 (.call 19 true) 47,⟨some 49,none,.bslc 2 1 3 9 [.str []] [(0,1),(1,1),(2,1)],[.c (.str [100,101,117,115]),.c (.str [101,115,116]),.c (.str
 [98,111,110,117,115])]⟩,O2 50 (.call 18 true) 48 49,MV 51 50,MG 52 51 true 5,P1 53 51 true (.call 19 true) 52,⟨some 54,some (51,true),.bslc 3 1 2 9 [.str []] [(0,1),(1,1)],[.c
 (.str [100,101,117,115]),.c (.str [98,111,110,117,115])]⟩,P2 55 51 true (.call 18 true) 53 54,PF 56 51 55,MV 57 56,MG 58 57 true 7,P1 59 57 true (.call 19 true) 58,⟨some
 60,some (57,true),.bslc 4 1 5 9 [.str []] [(0,1),(1,1),(2,1),(3,1),(4,1)],[.c (.str [100,101,117,115]),.c (.str [118,101,114,101]),.c (.str [44]),.c (.str [101,116]),.c (.str
 [98,111,110,117,115])]⟩,P2 61 57 true (.call 18 true) 59 60,PF 62 57 61,MV 63 62,MG 64 63 true 7,PC 65 63 true (.idxA 7) 64 (i6 2),P1 66 63 true (.fldA 4) 65,P1 67 63 true
 (.load none) 66,PF 68 63 67,MV 69 68,MG 70 69 true 7,PC 71 69 true (.idxA 7) 70 (i6 3),P1 72 69 true (.fldA 4) 71,P1 73 69 true (.load none) 72,P1 74 69 true (.un UnOp.not)
 73,PF 75 69 74,MV 0 75])))))))
theorem qDb:qG Tryz.prog 25 76 5 [RV.tmp 0] qEB:=fi Tryz.f25 [24,32,49,54,60] qtH []
end
section
open Go Go.Proofs AF HY LN
namespace RC
theorem qFL(a:Cq)(h:wh)(hb:CqB a):ACalls Tryz.prog 24 [.agg (cqC a)] h (.bool (qzY a)) h:=by
 have c1:=λh=>qFH a.x h hb.x
 have c2:=λh=>qFI a.l h hb.l
 have c3:=λh=>qDA a.d h hb.d
 unfold qzY;cases e1:qtw a.x with
 |true=>
  rw[e1]at c1;unfold coC at c1;refine acO qo0 ?_;simp (disch:=omega) only[qwN,cqC,go_sem]
  repeat' first|(refine qj ( .bool false) ?_;simp (disch:=omega) only[go_sem])|(refine cA (c1 _) flk ?_;simp (disch:=omega) only[go_sem])|exact wa|fail
 |false=>
  rw[e1]at c1;unfold coC at c1;cases e2:qtx a.l with
  |true=>
   rw[e2]at c2;refine acO qo0 ?_;simp (disch:=omega) only[qwN,cqC,go_sem]
   repeat' first|(refine qj ( .bool false) ?_;simp (disch:=omega) only[go_sem])|((first|refine cA (c1 _) ?_ ?_|refine cG (λe=>c2 _) ?_ ?_);exact flk;simp (disch:=omega) only[go_sem])|exact wa|fail
  |false=>
   rw[e2]at c2;cases e3:qty a.d with
   |true=>
    rw[e3]at c3;refine acO qo0 ?_;simp (disch:=omega) only[qwN,cqC,go_sem]
    repeat' first|((first|refine cA (c1 _) ?_ ?_|refine cG (λe=>c2 _) ?_ ?_|refine cG (λe=>c3 _) ?_ ?_);exact flk;simp (disch:=omega) only[go_sem])|exact wa|fail
   |false=>
    rw[e3]at c3;refine acO qo0 ?_;simp (disch:=omega) only[qwN,cqC,go_sem]
    repeat' first|((first|refine cA (c1 _) ?_ ?_|refine cG (λe=>c2 _) ?_ ?_|refine cG (λe=>c3 _) ?_ ?_);exact flk;simp (disch:=omega) only[go_sem])|exact wa|fail
theorem qD8(s:Str)(h:wh):ACalls Tryz.prog 159 [.str s] h (.agg (tkC (tkS s))) h:=by
 unfold tkS tkC;refine acO qym ?_;simp (disch:=omega) only[qwm,go_sem]
 repeat' first|exact wa|fail
theorem qD0(h:wh):ACalls Tryz.prog 83 [] h (.agg (coC xCo)) h:=by
 have c1:=λs h=>qD8 s h
 unfold tkC tkS at c1;refine acO qDm ?_;simp (disch:=omega) only[qEM,go_sem]
 repeat' first|((first|refine cA (c1 qbW _) ?_ ?_|refine cA (c1 qvL _) ?_ ?_|refine cA (c1 UF _) ?_ ?_);exact flk;simp (disch:=omega) only[go_sem])|(apply qb;exact rvk;simp only[go_sem])
 refine VLe.agg ⟨qi,vl2 ⟨ie rfl,trivial⟩ ⟨ie rfl,trivial⟩,vl2 ⟨?a1,trivial⟩ ⟨?a2,trivial⟩,vl3 ⟨?a3,trivial⟩ ⟨?a4,trivial⟩ ⟨?a5,trivial⟩,trivial⟩
 case a1=>simp only[go_sem];exact il3 rfl rfl rfl
 case a2=>simp only[go_sem];exact il2 rfl rfl
 case a3=>simp only[go_sem];exact il2 rfl rfl
 case a4=>simp only[go_sem];exact il2 rfl rfl
 case a5=>simp only[go_sem];exact il2 rfl rfl
def quy:Str:= [118,101,114,101]
def qD1:Dc:=⟨3,[65],1,[]⟩
def qD2:Dc:=⟨2,[65],1,[118,101,114,101,44,32,101,116]⟩
def qA:List Wd:= [⟨qbW,0,-1,-1,false,false,[]⟩,⟨qvL,1,0,-1,false,false,[]⟩,⟨UF,2,-1,-1,false,false,[]⟩]
def qB:List Wd:= [⟨qbW,0,-1,-1,false,false,[]⟩,⟨UF,2,-1,-1,false,false,[]⟩]
def qC:List Wd:= [⟨qbW,0,-1,-1,false,false,[]⟩,⟨quy,1,0,0,false,false,[]⟩,⟨[44],1,0,0,true,false,[]⟩,⟨[101,116],1,0,0,false,false,[]⟩,⟨UF,2,-1,-1,false,false,[]⟩]
theorem q_u:utR xCo=xUn∧utE xCo=0:=by decide+kernel
theorem q_a:esE xCo xUn [] 0=0∧esR xCo xUn [] 0=qA:=by decide+kernel
theorem q_b:esE xCo xUn [qD1] 0=0∧esR xCo xUn [qD1] 0=qB:=by decide+kernel
theorem q_c:esE xCo xUn [qD2] 0=0∧esR xCo xUn [qD2] 0=qC:=by decide+kernel
theorem qCs(h:wh)(hp:cb SG h)(hg:jf h frmN frmC):ACalls Tryz.prog 25 [] h (.bool true) h:=by
 have c1:=λh=>qD0 h
 have zs:qbd xCo:=(qrG (by decide+kernel)).1;have zu:qcS xUn:=(qrH (by decide+kernel)).1;have c2:=λl'=>qEc xCo (h++l') zs (hp.app l')
 rw[q_u.1,q_u.2]at c2;have hb: ∀d:List Dc,(∀o∈d,o.txt.length<=1000)->vaE xCo xUn=0->(rwA xCo xUn d (0:Int).toNat).length<=1000000000:=λd ht g=>qmv (by decide) ht g
 have t1: ∀o∈ [qD1],o.txt.length<=1000:=by decide
 have t2: ∀o∈ [qD2],o.txt.length<=1000:=by decide
 have c3:=λl'=>(qx1 xCo xUn [] 0 (h++l') zs zu (hp.app l') hg.app (by simp) (by simp) (hb [] (by simp))).le (args:= [.agg (coC xCo),qZ xUn,.nl,.int .i64 0]) ⟨qi,qi,qU,qi,trivial⟩ (qi)
 have c4:=λl'=>qx1 xCo xUn [qD1] 0 (h++l') zs zu (hp.app l') hg.app (by simp) t1 (hb _ t1)
 have c5:=λl'=>qx1 xCo xUn [qD2] 0 (h++l') zs zu (hp.app l') hg.app (by simp) t2 (hb _ t2)
 rw[q_a.1,q_a.2]at c3;rw[q_b.1,q_b.2]at c4;rw[q_c.1,q_c.2]at c5;have hc0:([h.length]:List Nat).contains h.length=true:=by simp
 have hc1:([h.length+1]:List Nat).contains (h.length+1)=true:=by simp
 unfold coC at c1 c2 c3;refine acO qDb ?_;simp (disch:=omega) only[qEB,go_sem]
 repeat' first|((first|refine cA (c1 _) ?_ ?_|refine cA (c2 _) ?_ ?_|refine cA (c3 _) ?_ ?_);exact flk;simp (disch:=omega) only[go_sem])|with_reducible apply aiA|exact clz|fail
 refine qE (r:= .tup [kq qB,.int .i64 0]) (h':=h++ [.emp 2,.emp 0,.emp 0,.emp 0,.emp 0]) (ACalls.frzd [h.length] (by simp only[dr,go_sem]) ?c) (by exact flk) ?_
 case c=>
  simp only[qbU,go_sem];refine ACalls.le (c4 _) ?_ (qi);simp only[go_sem,coC,hc0,if_true];exact⟨qi,qi,VLe.sl_eq rfl (λi hi=>by
   obtain rfl:i=0:=by omega
   rfl),qi,trivial⟩
 simp (disch:=omega) only[go_sem]
 repeat' first|(refine cA (c1 _) flk ?_;simp (disch:=omega) only[go_sem])|with_reducible apply aiA|exact clz|fail
 refine qE (r:= .tup [kq qC,.int .i64 0]) (h':=h++ [.emp 2,.emp 2,.emp 0,.emp 0,.emp 0]) (ACalls.frzd [h.length+1] (by simp only[dr,go_sem]) ?d) (by exact flk) ?_
 case d=>
  simp only[qbU,go_sem];refine ACalls.le (c5 _) ?_ (qi);simp only[go_sem,coC,hc1,if_true];exact⟨qi,qi,VLe.sl_eq rfl (λi hi=>by
   obtain rfl:i=0:=by omega
   rfl),qi,trivial⟩
 have zm:valP (.mm true) [.int .i64 0,.int .i64 0,.int .i64 0,.int .i64 0]= .int .i64 0:=rfl;have zn:okP (.mm true) [.int .i64 0,.int .i64 0,.int .i64 0,.int .i64 0]=True:=eqt (by simp[okP,qcs]);have zA: ∀g,valL g .len [kq qC]= .int .i64 5:=λ_=>rfl
 have zB: ∀g,okL g .len [kq qC]=True:=λ_=>eqt trivial
 have w1:=λh=>qvx qA h (by decide)
 have w2:=λh=>qvx qB h (by decide)
 have w3:=λh=>qvx qC h (by decide)
 have e1:qm9 qA= [qbW,qvL,UF]:=rfl;have e2:qm9 qB= [qbW,UF]:=rfl;have e3:qm9 qC= [qbW,quy,[44],[101,116],UF]:=rfl;rw[e1]at w1;rw[e2]at w2;rw[e3]at w3;simp (disch:=omega) only[zm,zn,zA,zB,go_sem]
 repeat' first|(refine cA (w1 _) flk ?_;simp (disch:=omega) only[go_sem])|with_reducible apply aiA|exact clz|fail
 refine cA (qC2 (L:= [qbW,qvL,UF]) ?v1 (by decide)) (by exact flk) ?_
 case v1=>
  simp only[List.map,go_sem];exact⟨qi,VLe.sl_eq rfl (λi hi=>by
   match i,hi with
   |0,_=>rfl
   |1,_=>rfl
   |2,_=>rfl
   |n+3,hi=>exact absurd hi om),trivial⟩
 simp (disch:=omega) only[go_sem]
 repeat' first|(refine cG (λe=>w2 _) flk ?_;simp (disch:=omega) only[go_sem])
 refine cG (λ_=>qC2 (L:= [qbW,UF]) ?v2 (by decide)) (λ_=>by exact flk) ?_
 case v2=>
  simp only[List.map,go_sem];exact⟨qi,VLe.sl_eq rfl (λi hi=>by
   match i,hi with
   |0,_=>rfl
   |1,_=>rfl
   |n+2,hi=>exact absurd hi om),trivial⟩
 simp (disch:=omega) only[go_sem]
 repeat' first|(refine cG (λe=>w3 _) flk ?_;simp (disch:=omega) only[go_sem])
 refine cG (λ_=>qC2 (L:= [qbW,quy,[44],[101,116],UF]) ?v3 (by decide)) (λ_=>by exact flk) ?_
 case v3=>
  simp only[List.map,go_sem];exact⟨qi,VLe.sl_eq rfl (λi hi=>by
   match i,hi with
   |0,_=>rfl
   |1,_=>rfl
   |2,_=>rfl
   |3,_=>rfl
   |4,_=>rfl
   |n+5,hi=>exact absurd hi om),trivial⟩
 have zq:kq qC= .sl 5 λi=>wdC (qC.getD i default):=rfl
 have g2:qC.getD 2 default=⟨[44],1,0,0,true,false,[]⟩:=rfl;have g3:qC.getD 3 default=⟨[101,116],1,0,0,false,false,[]⟩:=rfl;simp (disch:=omega) only[zq,wdC,go_sem]
 repeat' first|exact wa|(with_reducible first|intro _|apply aiA)|exact clz|fail
theorem qvO.esE{x:Co}{l:List Un}{d:List Dc}{s:Nat}(h:qvO x l d s):esE x l d s=0:=by
 have h1:vaE x l=0:=by
  unfold vaE;rw[ine (λhc=>hc h.ca),ine];unfold rgB;rw[h.us,h.cv];simp
 have h2:UY x l d=0:=by
  unfold UY;rw[ine (by have:=h.dl;omega)];exact jW.2 h.pl
 have:=h.sl
 have:=h.ln
 unfold RC.esE;rw[h1,h2,ine (by simp),ine om,ine (by simp),ine (by rw[itn];omega)]
theorem qFv(r:Rd)(own:List Str)(h:wh)(h1:r.words.length<=1000000000)(h2:own.length<=1000000000):ACalls Tryz.prog 92 [.agg (rdC r),.ip [strs own]] h (.bool (decide (r.words=own))) h:=by
 have c1:=λh=>qC3 r.words own h h1 h2
 unfold strs at c1;refine acO qDr ?_;simp (disch:=omega) only[qER,rdC,strs,go_sem]
 repeat' first|(refine cA (c1 _) flk ?_;simp (disch:=omega) only[go_sem])|exact wa|with_reducible apply aiA|exact clz|fail
theorem qpV(L:List Rd)(own:List Str):qbE (λr=>decide ((L.getD r default).words=own)) L.length 0=qbK L own:=by
 unfold qbK;congr 1;funext r;exact decide_eq_decide.2 eq_comm
theorem qFR(L:List Rd)(own:List Str)(k v:Nat)(h:wh)(hk:qu k h=some (.mem v 22 [strs own]))(hl:L.length<=1000000000)(hw: ∀j,(L.getD j default).words.length<=1000000000)(ho:own.length<=1000000000):
  ACalls Tryz.prog 91 [jh L,.fn (.func 92) [] [.op k v 0]] h (.int .i64 (qbK L own)) h:=by
 have hc:=qR hk;rw[<-qpV];unfold jh;refine qeG qzN L.length (λj=>rdC (L.getD j default)) (λj=> .agg (rdC (L.getD j default))) _ [] [.op k v 0] _ h (λi _=>⟨rfl,by simp[kv,rdC],rfl,rfl,rfl⟩) (λi _=> ?_) om;refine ACalls.borrow ?_ rfl;have e:([AV.agg (rdC (L.getD i default))]++ [AV.op k v 0]).map (rei (λ_=>true) h 8)= [.agg (rdC (L.getD i default)),.ip [strs own]]:=by
  simp only[lca,lna,List.map_cons,List.map_nil,rei_op,if_true,hc,ipOf_some,List.drop_zero,rei_agg];rfl
 rw[lna,e];exact qFv _ own _ (hw i) ho
theorem qqo{v n:Nat}{L:List Int}{g:AV->AV}(hg: ∀s,g (.int .i64 s)= .int .i64 s)(hn:n=L.length):VLe (qe4 (some (zw v 3 (qM L))) v 1 0 n g) (qx L):=by
 subst hn
 by_cases h:L= []
 ·subst h;show VLe (qe4 (some (.emp v)) v 1 0 0 g) _;rw[slOf_emp,ipo rfl];exact qU
 ·have e0:zw v 3 (qM L)= .mem v 3 (qM L):=c8 (λe=>h (qeK.1 e));rw[e0,slOf_mem,ipo ⟨rfl,by rw[ja];omega⟩];simp only[Nat.zero_add,Nat.mul_one];exact qct g hg rfl
def chP(l:List Un)(b:List Wd)(i:Nat):List Int:=(List.range i).map (chK l b)
theorem qgD(l:List Un)(b:List Wd)(i:Nat):chP l b (i+1)=chP l b i++ [chK l b i]:=by unfold chP;rw[List.range_succ,List.map_append];rfl
theorem qfB(l:List Un)(b:List Wd)(i:Nat):(chP l b i).length=i:=by simp[chP]
def chR(x:Co)(l:List Un)(d:List Dc)(s:Int):List Int:=if esE x l d s=0 then chP l (esR x l d s) l.length else []
theorem qCP(x:Co)(l:List Un)(d:List Dc)(s:Int)(h:wh)(hz:qbd x)(hu:qcS l)(hp:cb SG h)(hg:jf h frmN frmC)(hd:d.length<=1000000)(ht: ∀o∈d,o.txt.length<=1000)(hN0:vaE x l=0->(rwA x l d s.toNat).length<=1000000000):
  ACalls Tryz.prog 27 [.agg (coC x),qZ l,kz d,.int .i64 s] h (.tup [qx (chR x l d s),.int .i64 (esE x l d s)]) h:=by
 have c1:=λl'=>qx1 x l d s (h++l') hz hu (hp.app l') hg.app hd ht hN0
 have hb:=qfF (x:=x) (l:=l) (d:=d) (s:=s);have hl:=hu.n;unfold chR;obtain⟨b,hbb⟩:=wg (esR x l d s)
 obtain⟨E,hE⟩:=wg (esE x l d s)
 simp only[<-hbb,<-hE]at c1 hb ⊢;unfold coC at c1
 by_cases g:E=0
 case neg=>
  have k1:(E=0)=False:=eqf g;rw[ine g];refine acO qyW ?_;simp (disch:=omega) only[qCz,coC,go_sem]
  repeat' first|(refine cA (c1 _) flk ?_;simp (disch:=omega) only[k1,go_sem])|(apply qb;exact rvk;simp only[go_sem])|with_reducible apply aiA|exact clz|fail
  exact VLe.tup ⟨qU,qi,trivial⟩
 subst g;rw[ipo rfl];have zu1: ∀g,valL g .len [qZ l]= .int .i64 l.length:=λ_=>rfl
 have zu2: ∀g,okL g .len [qZ l]=True:=λ_=>eqt trivial
 have zu:qZ l= .sl l.length λi=>unC (l.getD i default):=rfl
 refine acO qyW ?_;simp (disch:=omega) only[qCz,coC,go_sem]
 repeat' first|(refine cA (c1 _) flk ?_;simp (disch:=omega) only[zu1,zu2,go_sem])|with_reducible apply aiA|exact clz|fail
 refine qk (T:=λs:Nat×Nat×AObj×AObj×AObj=>qP 46 [(10,kq b),(12,.osl (h.length+2) s.2.1 1 0 s.1),(27,qZ l),(28,.int .i64 l.length),(29,.int .i64 s.1)])
  (H:=λs=>h++ [.mem 1 26 (coC x),.emp 1,zw s.2.1 3 (qM (chP l b s.1)),s.2.2.1,s.2.2.2.1,s.2.2.2.2,.emp 0])
  (inv:=λs=>s.1<=l.length∧qz [s.2.2.1] 0=true∧qz [s.2.2.2.1] 0=true∧qz [s.2.2.2.2] 0=true) (m:=λs=>l.length-s.1) (0,1,.emp 0,.emp 0,.emp 0) ⟨nzl _,rfl,rfl,rfl⟩ (Wk.temps ?_) ?_
 ·(simp only[go_sem,qf,qc,qa,qe];try exact we)
 rintro⟨i,v,O1,O2,O3⟩ ⟨i1,i2,i3,i4⟩ K hK;simp only at i1 i2 i3 i4 hK;have i2': ∀m,qz (O1::m) 0=true:=λ_=>i2
 have i3': ∀m,qz (O2::m) 0=true:=λ_=>i3
 have i4': ∀m,qz (O3::m) 0=true:=λ_=>i4
 have eL:=qfB l b i
 by_cases hi:i<l.length
 ·have k1:((i:Int)<l.length)=True:=wj;have hS:=qgD l b i;have hK0:chK l b i=qbK (l.getD i default).rds (owG b (i:Int) b.length):=rfl;have hol:=qlQ b (i:Int) b.length;have c2:=λh=>qF9 b (i:Int) h om
  have c3:=λk v h hk=>qFR (l.getD i default).rds (owG b (i:Int) b.length) k v h hk (hu.rd i) (hu.wd i) om
  rw[<-hK0]at c3;obtain⟨y,hy⟩:=wg (chK l b i)
  rw[<-hy]at hS c3;obtain⟨W,hW⟩:=wg (owG b (i:Int) b.length)
  simp only[<-hW]at c2 c3;obtain⟨L,hL⟩:=wg (chP l b i)
  rw[<-hL]at hS eL ⊢;obtain⟨u,hux⟩:=wg (l.getD i default)
  have eu:=hux.symm;simp only[eu]at c3;have eC:=ja L;have eTk:List.take i (qM L)=qM L:=ltl om;simp (disch:=omega) only[zu,unC,k1,eu,i2',go_sem]
  repeat' first|(refine cA (c2 _) flk ?_;simp (disch:=omega) only[i3',go_sem])|with_reducible apply aiA|exact clz|fail
  refine cA (c3 (h.length+4) _ _ ?ka) (by exact flk) ?_
  case ka=>simp only[go_sem]
  simp (disch:=omega) only[i4',eC,eL,eTk,Nat.mul_one,go_sem]
  repeat' first|with_reducible apply aiA|exact clz|fail
  have eA:qM L++ [AV.int .i64 y]=qM (L++ [y]):=by rw[qaP];rfl
  try rw[eA]
  refine hK _ _ (i+1,v+1,.mem (qo (some O1)+1) 39 (unC u),.mem (qo (some O2)+1) 22 [strs W],.mem (qo (some O3)+1) 3 [.int .i64 y]) ⟨hi,rfl,rfl,rfl⟩ (by simp only;omega) ?_;simp only[hS,unC];refine Wk.temps ?_
  (simp only[go_sem,qf,qc,qa,qe];try exact we)
 have k1:((i:Int)<l.length)=False:=wl;obtain rfl:i=l.length:=by omega
 simp (disch:=omega) only[k1,go_sem]
 repeat' first|(apply qb;exact rvk;simp only[go_sem])
 exact VLe.tup ⟨qqo (λ_=>rfl) eL.symm,qi,trivial⟩
theorem qvO.va{x:Co}{l:List Un}{d:List Dc}{s:Nat}(h:qvO x l d s):vaE x l=0:=by
 unfold vaE;rw[ine (λhc=>hc h.ca),ine];unfold rgB;rw[h.us,h.cv];simp
theorem qGo(L:List Wd)(h:wh)(hn:L.length<=1000000000):ACalls Tryz.prog 29 [kq L,kq L] h (.bool true) h:=by
 have zl1: ∀g,valL g .len [kq L]= .int .i64 L.length:=λ_=>rfl
 have zl2: ∀g,okL g .len [kq L]=True:=λ_=>eqt trivial
 have z0:kq L= .sl L.length λi=>wdC (L.getD i default):=rfl
 have qq:((L.length:Int)=L.length)=True:=eqt rfl;refine acO qDc ?_;simp (disch:=omega) only[qEC,zl1,zl2,go_sem];refine qk (T:=λi:Nat=>qP 26 [(0,kq L),(1,kq L),(5,.int .i64 i)]) (H:=λ_=>h) (inv:=λi=>i<=L.length) (m:=λi=>L.length-i) 0 (nzl _) (Wk.temps ?_) ?_
 ·(simp only[go_sem,qf,qc,qa,qe];try exact we)
 rintro i i1 K hK
 by_cases hi:i<L.length
 ·have k1:((i:Int)<L.length)=True:=wj;have k0:(0<=(i:Int))=True:=wj;obtain⟨w,hw⟩:=wg (L.getD i default)
  have ew:=hw.symm;simp (disch:=omega) only[z0,wdC,k0,k1,ew,go_sem];refine hK _ _ (i+1) hi om (Wk.temps ?_)
  (simp only[z0,wdC,go_sem,qf,qc,qa,qe];try exact we)
 have k1:((i:Int)<L.length)=False:=wl;simp (disch:=omega) only[zl1,zl2,k1,go_sem]
 repeat' first|exact wc|fail
end RC
end
section
open Go Go.Proofs AF
end
section
open Go Go.Proofs AF
end
section
open Go Go.Proofs AF HY LN
namespace RC
end RC
end
section
open Go Go.Proofs AF
end
section
open Go Go.Proofs AF HY LN
namespace RC
theorem qFr(c:UInt8)(h:wh):ACalls Tryz.prog 299 [.int .u8 (c.toNat:Int)] h (.bool (bgn c)) h:=by
 have c5:=λh=>qa2 c h
 unfold bgn;obtain⟨k,hk⟩:=wg (kind c)
 rw[<-hk]at c5 ⊢
 by_cases g1:k=1
 ·have q1:(k=1)=True:=eqt g1;rw[dqt g1,Bool.true_or];refine acO qk4 ?_;simp (disch:=omega) only[qof,go_sem]
  repeat' first|(refine cA (c5 _) flk ?_;simp (disch:=omega) only[q1,go_sem])|exact wc|fail
 have q1:(k=1)=False:=eqf g1;rw[dqf g1,Bool.false_or]
 by_cases g3:k=3
 ·have q3:(k=3)=True:=eqt g3;rw[dqt g3];refine acO qk4 ?_;simp (disch:=omega) only[qof,go_sem]
  repeat' first|(refine cA (c5 _) flk ?_;simp (disch:=omega) only[q1,q3,go_sem])|exact wc|fail
 have q3:(k=3)=False:=eqf g3;rw[dqf g3];refine acO qk4 ?_;simp (disch:=omega) only[qof,go_sem]
 repeat' first|(refine cA (c5 _) flk ?_;simp (disch:=omega) only[q1,q3,go_sem])|exact wc|fail
theorem qGN(b:List Tk)(h:wh)(hn:b.length<=1000000):ACalls Tryz.prog 241 [zy b] h (strs (qdk b)) h:=by
 have z1: ∀g,valL g .len [zy b]= .int .i64 b.length:=λ_=>rfl
 have z2: ∀g,okL g .len [zy b]=True:=λ_=>eqt trivial
 have z0:zy b= .sl b.length λi=>tkC (b.getD i default):=rfl
 refine acO qyO ?_;simp (disch:=omega) only[qwM,go_sem];refine qk (T:=λs:Nat×Nat×AObj=>qP 20 [(0,zy b),(3,.osl (h.length+1) s.2.1 1 0 s.1),(4,.int .i64 s.1)])
  (H:=λs=>h++ [.emp 1,zw s.2.1 9 (jF (qdk (b.take s.1))),s.2.2,.emp 0])
  (inv:=λs=>s.1<=b.length∧qz [s.2.2] 0=true) (m:=λs=>b.length-s.1) (0,1,.emp 0) ⟨nzl _,rfl⟩ (Wk.temps ?_) ?_
 ·(simp only[go_sem,qf,qc,qa,qe];try exact we)
 rintro⟨i,v,O2⟩ ⟨i1,i3⟩ K hK;simp only at i1 i3 hK;have i3': ∀m,qz (O2::m) 0=true:=λ_=>i3
 have eL:(qdk (b.take i)).length=i:=by unfold qdk;rw[List.length_map,List.length_take];omega
 by_cases hi:i<b.length
 ·have k1:((i:Int)<b.length)=True:=wj;have k2:(0<=(i:Int))=True:=wj;have hS:qdk (b.take (i+1))=qdk (b.take i)++ [(b.getD i default).text]:=by
   unfold qdk;rw[List.take_add_one,zD hi,gdqA,zD hi,List.map_append];rfl
  obtain⟨L,hL⟩:=wg (qdk (b.take i))
  rw[<-hL]at hS eL ⊢;obtain⟨w,hw⟩:=wg (b.getD i default)
  have ew:=hw.symm;rw[ew]at hS;have eC:=jG L;have eTk:List.take i (jF L)=jF L:=ltl om;simp (disch:=omega) only[z0,tkC,k1,k2,ew,i3',eC,eL,eTk,Nat.mul_one,go_sem]
  repeat' first|with_reducible apply aiA|exact clz|fail
  have eA:jF L++ [AV.str w.text]=jF (L++ [w.text]):=by simp[jF]
  have eD:(AV.str w.text::List.drop 1 (zM [AV.str []] 1))= [AV.str w.text]:=rfl;rw[eA,eD];refine hK _ _ (i+1,v+1,.mem (qo (some O2)+1) 9 [.str w.text]) ⟨hi,rfl⟩ (by simp only;omega) ?_;simp only[hS];refine Wk.temps ?_
  (simp only[z0,tkC,go_sem,qf,qc,qa,qe];try exact we)
 have k1:((i:Int)<b.length)=False:=wl;obtain rfl:i=b.length:=by omega
 rw[List.take_length]at eL ⊢;simp (disch:=omega) only[k1,z1,z2,go_sem]
 repeat' first|(apply qb;exact rvk;simp only[go_sem])
 exact qa0 (λ_=>rfl) eL.symm
def qCk(b:List Tk):Int:=if 1024<b.length then 4 else if qfO b=true then 4 else 0
theorem qE3(b:List Tk)(h:wh)(hn:b.length<=1000000):ACalls Tryz.prog 236 [zy b] h (.int .i64 (qCk b)) h:=by
 have z1: ∀g,valL g .len [zy b]= .int .i64 b.length:=λ_=>rfl
 have z2: ∀g,okL g .len [zy b]=True:=λ_=>eqt trivial
 have z0:zy b= .sl b.length λi=>tkC (b.getD i default):=rfl
 unfold qCk
 by_cases g:1024<b.length
 ·have k1:((1024:Int)<b.length)=True:=wj;rw[ipo g];refine acO qrs ?_;simp (disch:=omega) only[qsw,z1,z2,k1,go_sem]
  repeat' first|exact wc|fail
 have k1:((1024:Int)<b.length)=False:=wl;rw[ine g];refine acO qrs ?_;simp (disch:=omega) only[qsw,z1,z2,k1,go_sem];refine qk (T:=λi:Nat=>qP 20 [(0,zy b),(3,.int .i64 (i:Int))]) (H:=λ_=>h)
  (inv:=λi=>i<=b.length∧ ∀j,j<i->decide (64<(b.getD j default).text.length)=false) (m:=λi=>b.length-i) 0 ⟨nzl _,λj hj=>absurd hj (nnz j)⟩ (Wk.temps ?_) ?_
 ·(simp only[go_sem,qf,qc,qa,qe];try exact we)
 rintro i ⟨i1,i2⟩ K hK
 by_cases hi:i<b.length
 ·have m1:((i:Int)<b.length)=True:=wj;have m2:(0<=(i:Int))=True:=wj;obtain⟨w,hw⟩:=wg (b.getD i default)
  have ew:=hw.symm
  by_cases e:64<w.text.length
  ·have q1:((64:Int)<w.text.length)=True:=wj;have hl:qfO b=true:=by
    unfold qfO;exact qN.2 ⟨i,hi,by rw[ew];exact dqt e⟩
   rw[ipo hl];simp (disch:=omega) only[z0,tkC,m1,m2,ew,q1,go_sem]
   repeat' first|exact wc|fail
  ·have q1:((64:Int)<w.text.length)=False:=wl;simp (disch:=omega) only[z0,tkC,m1,m2,ew,q1,go_sem];refine hK _ _ (i+1) ⟨hi,λj hj=> ?_⟩ om (Wk.temps ?_)
   ·by_cases e2:j=i
    ·subst e2;rw[ew];exact dqf e
    ·exact i2 j om
   ·(simp only[z0,tkC,go_sem,qf,qc,qa,qe];try exact we)
 have m1:((i:Int)<b.length)=False:=wl;have hl:qfO b=false:=by
  unfold qfO;exact qp.2 λj hj=>i2 j om
 rw[hl,ine (by simp)];simp (disch:=omega) only[m1,z1,z2,go_sem]
 repeat' first|exact wc|fail
def sgC(c:UInt8):wi:= [.int .u8 (c.toNat:Int),.int .i64 0,.bool false,.bool false,.str [],.str [],.int .i64 0]
def qem(s:Str):AV:= .sl s.length λi=>sgC (s.getD i 0)
def qcF(s:Str):wi:=s.flatMap sgC
theorem qhc(L:Str):(qcF L).length=L.length*7:=by
 unfold qcF
 induction L with
 |nil=>rfl
 |cons a L ih=>rw[List.flatMap_cons,lap,ih,lco,show (sgC a).length=7 from rfl];omega
theorem qqh(A B:Str):qcF (A++B)=qcF A++qcF B:=by simp[qcF]
theorem qqj(a:UInt8):qcF [a]=sgC a:=by simp[qcF]
theorem qmA(L:Str): ∀i,(qcF L).drop (i*7)=qcF (L.drop i):=by
 induction L with
 |nil=>intro i;simp[qcF]
 |cons a L ih=>
  intro i;cases i with
  |zero=>simp
  |succ i=>
   rw[show qcF (a::L)=sgC a++qcF L from rfl,show (a::L).drop (i+1)=L.drop i from rfl,<-ih i];rw[show (i+1)*7=(sgC a).length+i*7 by rw[show (sgC a).length=7 from rfl];omega,List.drop_append,List.drop_eq_nil_of_le om,lna,Nat.add_sub_cancel_left]
theorem qqi{L:Str}{i:Nat}(hi:i<L.length):((qcF L).drop (i*7)).take 7=sgC (L.getD i 0):=by
 rw[qmA,List.drop_eq_getElem_cons hi,gdqA,zD hi];rfl
theorem qqp{v n:Nat}{L:Str}{ty:TypeId}{fz:Nat->Bool}{h:wh}{d:Nat}(hn:n=L.length):VLe (qe4 (some (zw v ty (qcF L))) v 7 0 n (rei fz h (d+1))) (qem L):=by
 subst hn;unfold zw;split
 ·rename_i e
  have:L= []:=by
   cases L with
   |nil=>rfl
   |cons a r=>exact absurd e (by simp[qcF,sgC])
  subst this;rw[slOf_emp,ipo rfl];exact qU
 ·rw[slOf_mem,ipo ⟨rfl,by rw[qhc];omega⟩];refine VLe.sl_eq rfl (λi hi=> ?_);simp only[Nat.zero_add];rw[qqi hi];rfl
theorem qE8(s:Str)(h:wh)(hs:s.length<=1000000):ACalls Tryz.prog 234 [.agg [.str [],.int .i64 0],zY s,.bool false,.str []] h (.tup [qem s,.agg [.str [],.int .i64 0],.bool false]) h:=by
 have z0:zY s= .sl 1 λ_=> [.int .i64 1,.str s,.int .i64 0,.nl]:=rfl
 refine acO qyI ?_;simp (disch:=omega) only[qwH,go_sem];refine qk (T:=λi:Nat×Nat×AObj×AObj=>qP 126 [(1,zY s),(2,.bool false),(3,.str []),(4,.op h.length 1 0),(9,.op (h.length+2) 1 0),(11,.osl (h.length+3) i.2.1 7 0 (if i.1=0 then ([]:Str) else s).length),(12,.bool false),(13,.int .i64 (i.1:Int))])
  (H:=λi=>h++ [.mem 1 117 [.str [],.int .i64 0],.emp 1,.mem 1 117 [.str [],.int .i64 0],zw i.2.1 359 (qcF (if i.1=0 then [] else s)),i.2.2.1,i.2.2.2,.emp 0,.emp 0,.emp 0,.emp 0,.emp 0,.emp 0,.emp 0])
  (inv:=λi=>i.1<=1∧qz [i.2.2.1] 0=true∧qz [i.2.2.2] 0=true) (m:=λi=>1-i.1) (0,1,.emp 0,.emp 0) ⟨nzl _,rfl,rfl⟩ (Wk.temps ?_) ?_
 ·(simp only[go_sem,qf,qc,qa,qe];try exact we)
 rintro⟨i,v,O1,O2⟩ ⟨i1,i2,i3⟩ K hK;simp only at i1 i2 i3 hK;have i2': ∀m,qz (O1::m) 0=true:=λ_=>i2
 have i3': ∀m,qz (O2::m) 0=true:=λ_=>i3
 by_cases hi:i=0
 case neg=>
  obtain rfl:i=1:=by omega
  simp only[ine (show¬(1:Nat)=0 by omega)];simp (disch:=omega) only[z0,go_sem]
  repeat' first|(apply qb;exact rvk;simp only[go_sem])|(with_reducible first|intro _|apply aiA)|exact clz|fail
  exact VLe.tup ⟨qqp rfl,qi,qi,trivial⟩
 subst hi;obtain⟨V,hV⟩:=wg (qo (some O1)+1)
 simp only[if_true];simp (disch:=omega) only[z0,i2',go_sem]
 repeat' first|(apply qb;exact rvk;simp only[go_sem])|(with_reducible first|intro _|apply aiA)|exact clz|fail
 rw[<-hV];refine qk (T:=λk:Nat×Nat×AObj=>qP 126 [(1,zY s),(2,.bool false),(3,.str []),(4,.op h.length 1 0),(9,.op (h.length+2) 1 0),(11,.osl (h.length+3) k.2.1 7 0 k.1),(12,.bool false),(13,.int .i64 0),(14,.op (h.length+4) V 0),(15,.int .i64 (k.1:Int))])
  (H:=λk=>h++ [.mem 1 117 [.str [],.int .i64 0],.emp 1,.mem 1 117 [.str [],.int .i64 0],zw k.2.1 359 (qcF (s.take k.1)),.mem V 234 [.int .i64 1,.str s,.int .i64 0,.nl],k.2.2,.emp 0,.emp 0,.emp 0,.emp 0,.emp 0,.emp 0,.emp 0])
  (inv:=λk=>k.1<=s.length∧qz [k.2.2] 0=true) (m:=λk=>s.length-k.1) (0,v,O2) ⟨nzl _,i3⟩ (Wk.temps ?_) ?_
 ·(simp only[go_sem,qf,qc,qa,qe];try exact we)
 rintro⟨k,v2,P⟩ ⟨k1,k2⟩ K2 hK2;simp only at k1 k2 hK2;have k2': ∀m,qz (P::m) 0=true:=λ_=>k2
 by_cases hk:k<s.length
 case neg=>
  obtain rfl:k=s.length:=by omega
  have m1:((s.length:Int)<s.length)=False:=wl;rw[List.take_length];simp (disch:=omega) only[m1,go_sem];refine hK _ _ (1,v2,.mem V 234 [.int .i64 1,.str s,.int .i64 0,.nl],P) ⟨nlr _,rfl,k2⟩ (by simp only;omega) (Wk.temps ?_)
  (simp only[go_sem,qf,qc,qa,qe];try exact we)
 have m1:((k:Int)<s.length)=True:=wj;have m2:(0<=(k:Int))=True:=wj;have eL:(s.take k).length=k:=by rw[List.length_take];omega
 obtain⟨c,hc⟩:=wg (ch s k)
 have ec:=hc.symm;have hS:s.take (k+1)=s.take k++ [c]:=by
  rw[List.take_add_one,zD hk,hc];unfold ch;rw[gdqA,zD hk];rfl
 obtain⟨L,hL⟩:=wg (s.take k)
 rw[<-hL]at hS eL ⊢;have eC:=qhc L;have eTk:List.take (k*7) (qcF L)=qcF L:=ltl om;simp (disch:=omega) only[m1,m2,k2',jV,ec,eC,eL,eTk,go_sem]
 repeat' first|with_reducible apply aiA|exact clz|fail
 have eA:qcF L++sgC c=qcF (s.take (k+1)):=by rw[hS,qqh,qqj]
 simp only[sgC]at eA
 try rw[eA]
 refine hK2 _ _ (k+1,v2+1,.mem (qo (some P)+1) 359 (sgC c)) ⟨hk,rfl⟩ (by simp only;omega) ?_;simp only[hS,sgC];refine Wk.temps ?_
 (simp only[go_sem,qf,qc,qa,qe];try exact we)
end RC
end
section
open Go Go.Proofs AF
def qtI:List Nat:= []
@[go_sem]def vL:DT:= DT.one ⟨some 114,none,.b2s,[.t 113]⟩ (DT.one ⟨some 115,none,.bin .add,[.t 105,.t 114]⟩ (DT.one ⟨some 116,none,.fldA 0,[.t 8]⟩ (DT.one ⟨none,none,.store 1,[.t 116,.t 115]⟩
 DT.nil)))
@[go_sem]def vM:DT:= DT.one ⟨some 105,none,.load none,[.t 104]⟩ vL
def qwI:C:=
 (vU [ON 2 (.nilo 0 6 119) []] (vU [ON 3 (.nilo 1 6 119) []] (vU [MC 4 (.bool false),MC 5 (.bool false)] ((vU [vO 6 0] (C.block 0 ((v6 11 6 0 0).seq (C.block 1 (vU [MV 15 0,MV 16
 6,O2 17 (.idxA 7) 15 16,O1 18 (.load (some 7)) 17,⟨some 7,none,.alloc 2 359 [.int .u8 0,i6 0,.bool false,.bool false,.str [],.str [],i6 0],[]⟩,ST 7 7 18] ((vU [vN 19 0 7,LD 20
 19,BC 21 .eql 20 (.int .u8 0),MV 22 21,P1 23 22 true (.fldA 1) 7,P1 24 22 true (.load none) 23,PC 25 22 true (.bin .eql) 24 (i6 0),PF 26 22 25] (vV 26 (vU [MV 27 5,MV 28 27,v7
 29 28 2 7,v8 30 28 29,PT 31 28 30,MC 4 (.bool false),MV 5 31] (vU [MV 32 6,vP 33 .add 32 1,MV 6 33] (C.exit 1))))).seq ((vU [vN 34 0 7,LD 35 34,BC 36 .neq 35 (.int .u8 0),MV 37
 36,P1 38 37 true (.fldA 0) 7,P1 39 37 true (.load none) 38,P1 40 37 true (.call 163 true) 39,PC 41 37 true (.bin .eql) 40 (i6 6),PF 42 37 41] (vV 42 (vU [MC 4 (.bool false)]
 (vU [MV 43 6,vP 44 .add 43 1,MV 6 44] (C.exit 1))))).seq (vU [vN 45 5 7,O1 46 (.load (some 2)) 45,vN 47 4 7,LD 48 47,⟨some 49,none,.build [.str [],.str [],.str [],i6 0,i6
 0,.str []] [(2,2),(5,1)],[.t 46,.t 48]⟩,⟨some 8,none,.alloc 3 119 [.str [],.str [],.str [],i6 0,i6 0,.str []],[]⟩,ST 6 8 49] (vU [vN 50 3 7,LD 51 50,MV 9 51] (vU [vO 10 1]
 ((C.block 2 (vU [vN 59 1 7,LD 60 59,vP 61 .gtr 60 0,MV 58 61] (C.cond (.t 58) (vY [vN 62 1 7,LD 63 62,O1 64 (.call 116 true) 63,ON 65 (.bin .add) [.c (.str [91]),.t 64],BC 66
 .add 65 (.str [93]),vN 67 0 8,ST 1 67 66,vN 68 4 8,⟨none,none,.store 1,[.t 68,.c (i6 2)]⟩]) (vU [vN 70 0 7,LD 71 70,O1 72 (.call 299 true) 71,MV 69 72] (C.cond (.t 69) (vU [vN
 73 0 7,LD 74 73,⟨some 75,none,.bslc 4 1 1 5 [.int .u8 0] [(0,1)],[.t 74]⟩,O1 76 .b2s 75,vN 77 0 8,ST 1 77 76] (C.block 3 ((vU [MV 78 6,MV 79 10,BI 80 .add 78 79,MV 81 0,O1 82
 .len 81,BI 83 .lss 80 82,MV 84 83,MG 85 84 true 0,MG 86 84 true 6,MG 87 84 true 10,P2 88 84 true (.bin .add) 86 87,P2 89 84 true (.idxA 7) 85 88,P1 90 84 true (.fldA 0) 89,P1
 91 84 true (.load none) 90,PC 92 84 true (.bin .neq) 91 (.int .u8 0),PF 93 84 92,MV 94 93,MG 95 94 true 0,MG 96 94 true 6,MG 97 94 true 10,P2 98 94 true (.bin .add) 96 97,P2 99
 94 true (.idxA 7) 95 98,P1 100 94 true (.fldA 0) 99,P1 101 94 true (.load none) 100,P1 102 94 true (.call 213 true) 101,PF 103 94 102] (vW 103 3)).seq (C.block 4 ((C.draw
 (DT.one ⟨some 106,none,.mv,[.t 0]⟩ (DT.one ⟨some 107,none,.mv,[.t 6]⟩ (DT.one ⟨some 108,none,.mv,[.t 10]⟩ (DT.one ⟨some 109,none,.bin .add,[.t 107,.t 108]⟩ (DT.one ⟨some
 110,none,.idxA 7,[.t 106,.t 109]⟩ (DT.one ⟨some 111,none,.fldA 0,[.t 110]⟩ (DT.one ⟨some 112,none,.load none,[.t 111]⟩ ((DT.one ⟨some 104,none,.fldA 0,[.t 8]⟩ ((DT.one ⟨some
 105,none,.load none,[.t 104]⟩ (DT.one ⟨some 113,none,.bslc 5 1 1 5 [.int .u8 0] [(0,1)],[.t 112]⟩ vL)).two (DT.one ⟨some 113,none,.bslc 5 1 1 5 [.int .u8 0] [(0,1)],[.t 112]⟩
 vM))).two (DT.one ⟨some 113,none,.bslc 5 1 1 5 [.int .u8 0] [(0,1)],[.t 112]⟩ (DT.one ⟨some 104,none,.fldA 0,[.t 8]⟩ vM))))))))))).seq (vU [MV 117 9,MV 118 117,vS 119 118 0,vS
 120 118 6,vS 121 118 10,vR 122 118 (.bin .add) 120 121,vR 123 118 (.idxA 7) 119 122,v7 124 118 3 123,v8 125 118 124,PT 126 118 125,MV 9 126] (vZ 127 10))))).loop)) (vY [vN 52 0
 7,LD 53 52,⟨some 54,none,.bslc 6 1 1 5 [.int .u8 0] [(0,1)],[.t 53]⟩,O1 55 .b2s 54,vN 56 0 8,ST 1 56 55,vN 57 4 8,⟨none,none,.store 1,[.t 57,.c (i6 8)]⟩])))))).seq (((C.wk.seq
 (vY [MV 129 9])).seq (vV 129 (vY [vN 130 4 8,LD 131 130,vP 132 .add 131 1,vN 133 4 8,ST 1 133 132]))).seq ((vU [MV 134 5] (vV 134 (vY [vN 135 4 8,LD 136 135,vP 137 .add 136
 4,vN 138 4 8,ST 1 138 137]))).seq ((vU [MV 139 4,MV 140 139,MG 141 140 true 3,P1 142 140 true .len 141,PC 143 140 true (.bin .gtr) 142 (i6 0),PF 144 140 143] (vV 144 (vY [vN
 145 4 8,LD 146 145,vP 147 .add 146 16,vN 148 4 8,ST 1 148 147]))).seq (vU [vN 149 0 8,LD 150 149,vN 151 1 8,ST 1 151 150] (vU [MV 152 3,O1 153 (.load (some 6)) 8,⟨some
 154,none,.bslc 7 6 1 119 [.str [],.str [],.str [],i6 0,i6 0,.str []] [(0,6)],[.t 153]⟩,O2 155 (.app 8 6 119 80) 152 154,MV 3 155] (vU [MC 4 (.bool true),MC 5 (.bool false)] (vY
 [MV 156 6,MV 157 10,BI 158 .add 156 157,MV 6 158])))))))))))))))).loop)).seq (vX [MV 159 3,MV 2 159])))))
theorem qyJ:qG Tryz.prog 235 160 9 [RV.tmp 2] qwI:=fi Tryz.f235 [2,3,7,8,75,113,54,154,155] qtI [24]
end
section
open Go Go.Proofs AF HY LN
namespace RC
theorem qfC{s:Str}{i:Nat}(hi:i<s.length):s.take (i+1)=s.take i++ [ch s i]:=by
 rw[List.take_add_one,zD hi];unfold ch;rw[gdqA,zD hi];rfl
def wdF(s:Str)(i n:Nat):Str:=(s.drop i).take n
theorem qcf{s:Str}{i n:Nat}(h:i+n<s.length):wdF s i (n+1)=wdF s i n++ [ch s (i+n)]:=by
 unfold wdF ch;rw[List.take_add_one,List.getElem?_drop,gdqA,zD h];rfl
theorem qn6{s:Str}{i:Nat}(hi:i<s.length)(ho:(bsL (s.take i)).opn=true->ko (ch s i)=false)(hb:bgn (ch s i)=true): ∀n,i+n+1<=s.length->(∀k,k<n->ko (ch s (i+1+k))=true)->
  bsL (s.take (i+n+1))=⟨(bsL (s.take i)).fin,true,jfl (bsL (s.take i)).jn (bsL (s.take i)).fin.length,wdF s i (n+1),true⟩:=by
 intro n
 induction n with
 |zero=>
  intro _ _;show bsL (s.take (i+1))=_;rw[qfC hi,qaC];have e:wdF s i (0+1)= [ch s i]:=by
   rw[qcf om];rfl
  rw[e];unfold Bs.stp;rw[ine (λq=>by rw[ho q.1]at q;cases q.2),ipo hb]
 |succ n ih=>
  intro hn hk;have h1:=ih om (λk hk2=>hk k om);rw[show i+(n+1)+1=(i+n+1)+1 by omega,qfC om,qaC,h1];unfold Bs.stp;have h2:=hk n om;rw[show i+1+n=i+n+1 by omega]at h2;rw[ipo ⟨rfl,h2⟩,qcf (n:=n+1) om];rfl
def fnT(b:Bs):List Tk:=b.fin.map tkN
theorem qnR{P:Program}{b:Nat}{x:C}{N:Nx}{Q:Ex->Nx}{t:wi}{h:wh}(I:wi->wh->Prop)(hy: ∀t h,I t h->N t h)
  (hx: ∀K:Nx,(∀t h,I t h->K t h)->ze P b x (Ex.andThen K Q) t h):ze P b x (Ex.andThen N Q) t h:=hx N hy
theorem qEY(s:Str)(h:wh)(hs:s.length<=1000000)(hz: ∀i,i<s.length->(ch s i).toNat≠0):ACalls Tryz.prog 235 [qem s] h (zy (qav s)) h:=by
 have z1: ∀g,valL g .len [qem s]= .int .i64 s.length:=λ_=>rfl
 have z2: ∀g,okL g .len [qem s]=True:=λ_=>eqt trivial
 have zf:(qem s).flag=True:=eqt rfl;have z0:qem s= .sl s.length λi=>sgC (ch s i):=rfl
 refine acO qyJ ?_;unfold qwI;generalize hSW:C.block 2 _=SW;simp (disch:=omega) only[go_sem];refine qk (T:=λi:Nat×Nat×AObj×AObj×AObj×AObj×AObj×AObj=>qP 160 [(0,qem s),(3,.osl (h.length+1) i.2.1 6 0 (fnT (bsL (s.take i.1))).length),(4,.bool (bsL (s.take i.1)).jn),(5,.bool false),(6,.int .i64 (i.1:Int))])
  (H:=λi=>h++ [.emp 1,zw i.2.1 119 (z7 (fnT (bsL (s.take i.1)))),i.2.2.1,i.2.2.2.1,i.2.2.2.2.1,i.2.2.2.2.2.1,i.2.2.2.2.2.2.1,i.2.2.2.2.2.2.2,.emp 0])
  (inv:=λi=>(i.1<=s.length∧((bsL (s.take i.1)).opn=true->i.1<s.length->ko (ch s i.1)=false))∧qz [i.2.2.1] 0=true∧qz [i.2.2.2.1] 0=true∧qz [i.2.2.2.2.1] 0=true∧qz [i.2.2.2.2.2.1] 0=true∧qz [i.2.2.2.2.2.2.1] 0=true∧qz [i.2.2.2.2.2.2.2] 0=true)
  (m:=λi=>s.length-i.1) (0,1,.emp 0,.emp 0,.emp 0,.emp 0,.emp 0,.emp 0) ⟨⟨nzl _,λe=>(by cases e)⟩,rfl,rfl,rfl,rfl,rfl,rfl⟩ (Wk.temps ?_) ?_
 ·(simp only[List.take_zero,go_sem,qf,qc,qa,qe];try exact we)
 rintro⟨i,v,O1,O2,O3,O4,O5,O6⟩ ⟨⟨i1,i2⟩,s1,s2,s3,s4,s5,s6⟩ K hK;simp only at i1 i2 s1 s2 s3 s4 s5 s6 hK;have s1': ∀m,qz (O1::m) 0=true:=λ_=>s1
 have s2': ∀m,qz (O2::m) 0=true:=λ_=>s2
 have s3': ∀m,qz (O3::m) 0=true:=λ_=>s3
 have s4': ∀m,qz (O4::m) 0=true:=λ_=>s4
 have s5': ∀m,qz (O5::m) 0=true:=λ_=>s5
 have s6': ∀m,qz (O6::m) 0=true:=λ_=>s6
 by_cases hi:i<s.length
 case neg=>
  have k1:((i:Int)<s.length)=False:=wl;obtain rfl:i=s.length:=by omega
  rw[List.take_length];have e:fnT (bsL s)=qav s:=rfl;rw[e];simp (disch:=omega) only[k1,z0,go_sem]
  repeat' first|(apply qb;exact rvk;simp only[go_sem])
  exact qa1 rfl
 have k1:((i:Int)<s.length)=True:=wj;have k2:(0<=(i:Int))=True:=wj;obtain⟨c,hc⟩:=wg (ch s i)
 have ec:=hc.symm;have hst:bsL (s.take (i+1))=(bsL (s.take i)).stp c:=by rw[qfC hi,qaC,ec]
 have i2:=λe=>i2 e hi
 have hw:=λhb=>qn6 hi i2 hb
 rw[ec]at i2 hw;have hcz:=hz i hi;rw[ec]at hcz;have hlen:=(qcV (s.take i)).len;rw[List.length_take]at hlen;obtain⟨b,hb⟩:=wg (bsL (s.take i))
 rw[<-hb]at hst i2 hw hlen ⊢;obtain⟨F,hF⟩:=wg (fnT b)
 have hFl:F.length=b.fin.length:=by rw[hF];unfold fnT;rw[List.length_map]
 rw[<-hF];have eC:=ju F;have eTk:List.take (F.length*6) (z7 F)=z7 F:=ltl om;have c5:=λh=>qa2 c h
 have c6:=λh=>qFr c h
 have q0:((c.toNat:Int)=0)=False:=wl;obtain⟨V1,hV1⟩: ∃V,V=qo (some O1)+1:=⟨_,rfl⟩
 obtain⟨V2,hV2⟩: ∃V,V=qo (some O2)+1:=⟨_,rfl⟩
 obtain⟨kk,hkk⟩: ∃k,k=kind c:=⟨_,rfl⟩
 rw[<-hkk]at c5
 by_cases g6:kk=6
 ·have m6:(kk=6)=True:=eqt g6;have hin:ko c=false:=by
   cases e:ko c with
   |false=>rfl
   |true=>exact absurd (hkk.symm.trans g6) (qfL e)
  have hbg:bgn c=false:=by
   cases e:bgn c with
   |false=>rfl
   |true=>rw[U3 e]at hin;cases hin
  have hs2:bsL (s.take (i+1))=⟨b.fin,false,0,[],false⟩:=by
   rw[hst];unfold Bs.stp;rw[ine (λq=>by rw[hin]at q;cases q.2),ine (by rw[hbg];simp),ipo (hkk.symm.trans g6)]
  have hFn:fnT ⟨b.fin,false,0,[],false⟩=F:=by
   rw[hF];unfold fnT Bs.fin;simp
  simp (disch:=omega) only[z0,sgC,k1,k2,ec,s1',q0,go_sem]
  repeat' first|(refine cG (λe=>c5 _) flk ?_;simp (disch:=omega) only[m6,go_sem])
  refine hK _ _ (i+1,v,.mem (qo (some O1)+1) 359 (sgC c),O2,O3,O4,O5,O6) ⟨⟨hi,λe=>by rw[hs2]at e;cases e⟩,rfl,s2,s3,s4,s5,s6⟩ (by simp only;omega) ?_;simp only[hs2,hFn,sgC];refine Wk.temps ?_
  (simp only[go_sem,qf,qc,qa,qe];try exact we)
 have m6:(kk=6)=False:=eqf g6;have wide:F.length<=1000000:=by omega
 obtain⟨V4,hV4⟩: ∃V,V=qo (some O3)+1:=⟨_,rfl⟩
 simp (disch:=omega) only[z0,sgC,k1,k2,ec,s1',q0,go_sem]
 repeat' first|(refine cG (λe=>c5 _) flk ?_;simp (disch:=omega) only[s2',m6,go_sem])
 rw[<-hV1,<-hV2];refine qnR (λtt hh=> ∃(w:Str) (f:Int) (n:Nat) (P3 P4 P5:AObj),((1<=n∧i+n<=s.length)∧(f=0∨f=8)∧fnT (bsL (s.take (i+n)))=F++ [⟨w,w,[],0,f+jfl b.jn F.length,[]⟩]∧(bsL (s.take (i+n))).jn=true∧
   ((bsL (s.take (i+n))).opn=true->i+n<s.length->ko (ch s (i+n))=false))∧(qz [P3] 0=true∧qz [P4] 0=true∧qz [P5] 0=true)∧
   Wk tt hh (qP 160 [(0,qem s),(3,.osl (h.length+1) v 6 0 F.length),(4,.bool b.jn),(5,.bool false),(6,.int .i64 (i:Int)),(8,.op (h.length+3) V2 0),(9,.bool false),(10,.int .i64 (n:Int))])
    (h++ [.emp 1,zw v 119 (z7 F),.mem V1 359 (sgC c),.mem V2 119 [.str w,.str [],.str [],.int .i64 0,.int .i64 f,.str []],P3,P4,P5,O6,.emp 0])) ?hy ?hx
 case hy=>
  rintro tt hh ⟨w,f,n,P3,P4,P5,⟨⟨n1,n2⟩,hf,hFn,hjn,hop⟩,⟨p3,p4,p5⟩,hw9⟩;clear hw hst hcz hz hSW;simp (disch:=omega) only[go_sem];refine⟨_,_,hw9,?_⟩;clear hw9;have r0:((i:Int)+(n:Int)).toNat=i+n:=by omega
  obtain⟨B2,hB2⟩: ∃B,B=bsL (s.take (i+n)):=⟨_,rfl⟩
  by_cases hj:b.jn=true∧0<F.length
  ·have ej:=hj.1;have m1:((0:Int)<F.length)=True:=wj;have ejf:jfl b.jn F.length=16:=by unfold jfl;rw[ipo hj]
   rw[ejf]at hFn;simp (disch:=omega) only[s6',ej,m1,eC,eTk,go_sem]
   repeat' first|with_reducible apply aiA|exact clz|fail
   have eA:z7 F++ [AV.str w,AV.str w,AV.str [],AV.int .i64 0,AV.int .i64 (f+16),AV.str []]=z7 (F++ [⟨w,w,[],0,f+16,[]⟩]):=by rw[UB,U7];rfl
   try rw[eA]
   refine hK _ _ (i+n,v+1,.mem V1 359 (sgC c),.mem V2 119 [.str w,.str w,.str [],.int .i64 0,.int .i64 (f+16),.str []],P3,P4,P5,.mem (qo (some O6)+1) 119 [.str w,.str w,.str [],.int .i64 0,.int .i64 (f+16),.str []]) ⟨⟨n2,hop⟩,rfl,rfl,p3,p4,p5,rfl⟩ (by simp only;omega) ?_;simp only[hFn,hjn,lap,lco,lnl];refine Wk.temps ?_
   (simp only[go_sem,qf,qc,qa,qe];try exact we)
  have ejf:jfl b.jn F.length=0:=by unfold jfl;rw[ine hj]
  rw[ejf,Int.add_zero]at hFn;cases ej:b.jn with
  |true=>
   have m1:((0:Int)<F.length)=False:=eqf (λe=>hj ⟨ej,om⟩);simp (disch:=omega) only[s6',m1,eC,eTk,go_sem]
   repeat' first|with_reducible apply aiA|exact clz|fail
   have eA:z7 F++ [AV.str w,AV.str w,AV.str [],AV.int .i64 0,AV.int .i64 (f),AV.str []]=z7 (F++ [⟨w,w,[],0,f,[]⟩]):=by rw[UB,U7];rfl
   try rw[eA]
   refine hK _ _ (i+n,v+1,.mem V1 359 (sgC c),.mem V2 119 [.str w,.str w,.str [],.int .i64 0,.int .i64 (f),.str []],P3,P4,P5,.mem (qo (some O6)+1) 119 [.str w,.str w,.str [],.int .i64 0,.int .i64 (f),.str []]) ⟨⟨n2,hop⟩,rfl,rfl,p3,p4,p5,rfl⟩ (by simp only;omega) ?_;simp only[hFn,hjn,lap,lco,lnl];refine Wk.temps ?_
   (simp only[go_sem,qf,qc,qa,qe];try exact we)
  |false=>
   simp (disch:=omega) only[s6',eC,eTk,go_sem]
   repeat' first|(with_reducible first|intro _|apply aiA)|exact clz|fail
   have eA:z7 F++ [AV.str w,AV.str w,AV.str [],AV.int .i64 0,AV.int .i64 (f),AV.str []]=z7 (F++ [⟨w,w,[],0,f,[]⟩]):=by rw[UB,U7];rfl
   try rw[eA]
   refine hK _ _ (i+n,v+1,.mem V1 359 (sgC c),.mem V2 119 [.str w,.str w,.str [],.int .i64 0,.int .i64 (f),.str []],P3,P4,P5,.mem (qo (some O6)+1) 119 [.str w,.str w,.str [],.int .i64 0,.int .i64 (f),.str []]) ⟨⟨n2,hop⟩,rfl,rfl,p3,p4,p5,rfl⟩ (by simp only;omega) ?_;simp only[hFn,hjn,lap,lco,lnl];refine Wk.temps ?_
   (simp only[go_sem,qf,qc,qa,qe];try exact we)
 case hx=>
  intro KK hKK;subst hSW;cases hbg:bgn c with
  |false=>
   rw[hbg]at c6;have hs2:bsL (s.take (i+1))=⟨b.fin++ [tkF (8+jfl b.jn b.fin.length) [c]],false,0,[],true⟩:=by
    rw[hst];unfold Bs.stp;rw[ine (λq=>by rw[i2 q.1]at q;cases q.2),ine (by rw[hbg];simp),ine (by rw[<-hkk];exact g6)]
   have hFn:fnT ⟨b.fin++ [tkF (8+jfl b.jn b.fin.length) [c]],false,0,[],true⟩=F++ [⟨[c],[c],[],0,8+jfl b.jn b.fin.length,[]⟩]:=by
    rw[hF];show List.map tkN ((b.fin++ [tkF (8+jfl b.jn b.fin.length) [c]])++ [])=_;rw[lan,List.map_append];rfl
   rw[<-hFl]at hs2 hFn;simp (disch:=omega) only[sgC,s3',s4',s5',q0,go_sem]
   repeat' first|(refine cA (c6 _) flk ?_;simp (disch:=omega) only[s3',s5',UO,go_sem])|(with_reducible first|intro _|apply aiA)
   all_goals try (rename_i y hy;change y∈ [AV.int .u8 (c.toNat:Int)]at hy;rw[List.mem_singleton]at hy;subst hy;exact UT c)
   all_goals try exact clz
   refine hKK _ _ ⟨[c],8,1,O3,O4,.mem (qo (some O5)+1) 5 [.int .u8 (c.toNat:Int)],⟨⟨nlr _,hi⟩,.inr rfl,by rw[hs2];exact hFn,by rw[hs2],λe=>by rw[hs2]at e;cases e⟩,⟨s3,s4,rfl⟩,?_⟩;simp only[sgC];refine Wk.temps ?_
   (simp only[go_sem,qf,qc,qa,qe];try exact we)
  |true=>
   rw[hbg]at c6;have hw:=hw hbg;have hw1:wdF s i 1= [c]:=by
    have:=qcf (s:=s) (i:=i) (n:=0) om
    rw[this,Nat.add_zero,ec];rfl
   simp (disch:=omega) only[z0,sgC,s3',s4',s5',q0,z1,z2,go_sem]
   repeat' first|(refine cA (c6 _) flk ?_;simp (disch:=omega) only[s3',s5',UO,go_sem])|(with_reducible first|intro _|apply aiA)
   all_goals try (rename_i y hy;change y∈ [AV.int .u8 (c.toNat:Int)]at hy;rw[List.mem_singleton]at hy;subst hy;exact UT c)
   all_goals try exact clz
   rw[<-hV4];refine qk (T:=λn:Nat×AObj=>qP 160 [(0,qem s),(3,.osl (h.length+1) v 6 0 F.length),(4,.bool b.jn),(5,.bool false),(6,.int .i64 (i:Int)),(8,.op (h.length+3) V2 0),(9,.bool false),(10,.int .i64 (n.1:Int))])
    (H:=λn=>h++ [.emp 1,zw v 119 (z7 F),.mem V1 359 (sgC c),.mem V2 119 [.str (wdF s i n.1),.str [],.str [],.int .i64 0,.int .i64 0,.str []],.mem V4 5 [.int .u8 (c.toNat:Int)],n.2,O5,O6,.emp 0])
    (inv:=λn=>(1<=n.1∧i+n.1<=s.length∧ ∀k,k+1<n.1->ko (ch s (i+1+k))=true)∧qz [n.2] 0=true) (m:=λn=>s.length-n.1) (1,O4) ⟨⟨nlr _,hi,λk hk=>by omega⟩,s4⟩ ?_ ?_
   ·simp only[hw1,sgC];refine Wk.temps ?_
    (simp only[go_sem,qf,qc,qa,qe];try exact we)
   rintro⟨n,P⟩ ⟨⟨n1,n2,n3⟩,n4⟩ K2 hK2;simp only at n1 n2 n3 n4 hK2;have n4': ∀m,qz (P::m) 0=true:=λ_=>n4
   have hb2:bsL (s.take (i+n))=⟨b.fin,true,jfl b.jn b.fin.length,wdF s i n,true⟩:=by
    have:=hw (n-1) om (λk hk=>n3 k om)
    rw[show i+(n-1)+1=i+n by omega,show n-1+1=n by omega]at this;exact this
   have hFn:fnT ⟨b.fin,true,jfl b.jn b.fin.length,wdF s i n,true⟩=F++ [⟨wdF s i n,wdF s i n,[],0,jfl b.jn b.fin.length,[]⟩]:=by
    rw[hF];show List.map tkN (b.fin++ [_])=_;rw[List.map_append];rfl
   rw[<-hFl]at hb2 hFn;have hws:=qcf (s:=s) (i:=i) (n:=n);have hwl:(wdF s i n).length<=s.length:=by unfold wdF;rw[List.length_take,List.length_drop];omega
   obtain⟨w,hww⟩:=wg (wdF s i n)
   rw[<-hww]at hb2 hFn hws hwl ⊢;have r0:((i:Int)+(n:Int)).toNat=i+n:=by omega
   have r1:(0<=(i:Int)+(n:Int))=True:=wj;clear hst hcz hw;have fin:(i+n<s.length->ko (ch s (i+n))=false)-> ∀tt hh,Wk tt hh (qP 160 [(0,qem s),(3,.osl (h.length+1) v 6 0 F.length),(4,.bool b.jn),(5,.bool false),(6,.int .i64 (i:Int)),(8,.op (h.length+3) V2 0),(9,.bool false),(10,.int .i64 (n:Int))])
     (h++ [.emp 1,zw v 119 (z7 F),.mem V1 359 (sgC c),.mem V2 119 [.str w,.str [],.str [],.int .i64 0,.int .i64 0,.str []],.mem V4 5 [.int .u8 (c.toNat:Int)],P,O5,O6,.emp 0])->KK tt hh:=λhex tt hh q=>
    hKK _ _ ⟨w,0,n,.mem V4 5 [.int .u8 (c.toNat:Int)],P,O5,⟨⟨n1,n2⟩,.inl rfl,by rw[hb2,Int.zero_add];exact hFn,by rw[hb2],λ_=>hex⟩,⟨rfl,n4,s5⟩,q⟩
   by_cases hn:i+n<s.length
   case neg=>
    have r2:((i:Int)+(n:Int)<s.length)=False:=wl;simp (disch:=omega) only[z0,sgC,r0,r1,r2,go_sem]
    repeat' first|(refine qj ( .bool false) ?_;simp (disch:=omega) only[Bool.false_and,go_sem])|(with_reducible first|intro _|apply aiA)|exact clz|fail
    refine fin (λq=>absurd q hn) _ _ ?_;simp only[sgC];refine Wk.temps ?_
    (simp only[z0,sgC,go_sem,qf,qc,qa,qe];try exact we)
   have r2:((i:Int)+(n:Int)<s.length)=True:=wj;have hws:=hws hn;obtain⟨e,he⟩:=wg (ch s (i+n))
   have ee:=he.symm;have c7:=λh=>qFd e h
   have hez:=hz (i+n) hn;rw[ee]at hez hws;have q1:((e.toNat:Int)=0)=False:=wl;cases hin:ko e with
   |false=>
    rw[hin]at c7;simp (disch:=omega) only[z0,sgC,r0,r1,r2,ee,q1,go_sem];refine cG (λ_=>c7 _) (λ_=>by exact flk) ?_;simp (disch:=omega) only[go_sem];refine fin (λ_=>by rw[ee];exact hin) _ _ ?_;simp only[sgC];refine Wk.temps ?_
    (simp only[z0,sgC,go_sem,qf,qc,qa,qe];try exact we)
   |true=>
    rw[hin]at c7;simp (disch:=omega) only[z0,sgC,r0,r1,r2,ee,q1,go_sem];refine cG (λ_=>c7 _) (λ_=>by exact flk) ?_;simp (disch:=omega) only[go_sem];refine kl ?zt ?zh ?za ?zb
    case za=>
     simp (disch:=omega) only[r0,r1,r2,ee,n4',UO,go_sem]
     repeat' first|(with_reducible apply aiA)|(with_reducible intro _)
     all_goals first
      |omega
      |rfl
      |(rename_i y hy;change y∈ [AV.int .u8 (e.toNat:Int)]at hy;rw[List.mem_singleton]at hy;subst hy;exact UT e)
      |skip
    case zb=>
    simp (disch:=omega) only[r0,r1,r2,ee,go_sem];refine hK2 _ _ (n+1,.mem (qo (some P)+1) 5 [.int .u8 (e.toNat:Int)]) ⟨⟨om,om,λk hk=> ?_⟩,rfl⟩ (by simp only;omega) ?_
    ·by_cases e1:k+1<n
     ·exact n3 k e1
     ·rw[show i+1+k=i+n by omega,ee];exact hin
    simp only[hws,sgC];refine Wk.temps ?_
    (simp only[z0,sgC,go_sem,qf,qc,qa,qe];try exact we)
end RC
end
section
open Go Go.Proofs AF
def qtJ:List Nat:= [234]
def qod:C:=
 (vU [ON 2 (.nilo 0 1 9) [],vO 3 0] ((vU [MV 10 0,O1 11 (.call 162 true) 10,MV 4 11] (vU [MV 12 4,vP 13 .neq 12 0] (vV 13 (vX [MV 14 4,ON 2 (.nilo 0 1 9) [],MV 3 14])))).seq (vU
 [⟨some 16,none,.build [.str [],i6 0] [],[]⟩,MV 17 0,⟨some 18,none,.build [i6 0,.str [],i6 0,.nl] [(0,1),(1,1)],[.c (i6 1),.t 17]⟩,⟨some 19,none,.bslc 1 4 1 234 [i6 0,.str [],i6
 0,.nl] [(0,4)],[.t 18]⟩,ON 20 (.call 234 false) [.t 16,.t 19,.c (.bool false),.c (.str [])],MV 15 20,O1 21 (.ext 0) 15,O1 22 (.ext 1) 15,O1 23 (.ext 2) 15,⟨some 6,none,.alloc 2
 117 [.str [],i6 0],[]⟩,MV 5 21,ST 2 6 22,MV 7 23] (vU [MV 24 5,O1 25 (.call 235 true) 24,MV 8 25] ((vU [MV 26 8,O1 27 (.call 236 true) 26,MV 9 27] (vU [MV 28 9,vP 29 .neq 28 0]
 (vV 29 (vX [MV 30 9,ON 2 (.nilo 0 1 9) [],MV 3 30])))).seq (vX [MV 31 8,O1 32 (.call 241 true) 31,MV 2 32,vO 3 0]))))))
theorem qk1:qG Tryz.prog 166 33 3 [RV.tmp 2,RV.tmp 3] qod:=fi Tryz.f166 [2,19,6] qtJ []
end
section
open Go Go.Proofs AF HY LN
namespace RC
theorem qxJ{s:Str}(h:zz s=0): ∀i,i<s.length->(ch s i).toNat≠0:=by
 intro i hi hc;rw[qcm]at h;split at h
 ·cases h
 ·split at h
  ·cases h
  ·rename_i g;refine g (List.any_eq_true.2 ⟨i,List.mem_range.2 hi,?_⟩);have ec:ch s i=0:=UInt8.toNat_inj.1 hc;unfold qab;rw[ec,show kind 0=0 by decide];rfl
theorem qBb(s:Str)(h:wh)(hl:s.length<=1000000):ACalls Tryz.prog 234 [.agg [.str [],.int .i64 0],.osl (h.length+1) 1 4 0 1,.bool false,.str []] (h++ [.emp 1,.mem 1 234 (.int .i64 1:: .str s:: .int .i64 0:: .nl::List.drop 4 (zM [.int .i64 0,.str [],.int .i64 0,.nl] 1)),.emp 0])
  (.tup [qem s,.agg [.str [],.int .i64 0],.bool false]) (h++ [.emp 1,.emp 2,.emp 0]):=by
 have c1:=qE8 s (h++ [.emp 1,.emp 2,.emp 0]) hl;refine ACalls.frzd [h.length+1] ?s1 ?s2
 case s1=>simp only[dr,go_sem]
 case s2=>
  simp only[List.map_cons,List.map_nil,qbU,go_sem];have e: [h.length+1].contains (h.length+1)=true:=by simp
  simp only[e,if_true];refine c1.le ⟨qi,?_,qi,qi,trivial⟩ (qi);unfold zY;refine VLe.sl_eq rfl (λi hi=> ?_);obtain rfl:i=0:=by omega
  rfl
theorem qAk(L:List Tk):qfO (L.map tkN)=qfO L:=by
 unfold qfO;rw[List.length_map];congr 1;funext j
 by_cases hj:j<L.length
 ·rw[gdqA,gdqA,List.getElem?_map,zD hj];rfl
 ·rw[gdqA,gdqA,List.getElem?_map,List.getElem?_eq_none om];rfl
theorem qls{s:Str}(hl:s.length<=1000):qCk (qav s)=qcA s:=by
 have h1:=UC s;unfold qCk qcA;rw[ine om];unfold qav;rw[qAk]
theorem qBf(s:Str)(h:wh)(hl:s.length<=1000):ACalls Tryz.prog 166 [.str s] h (.tup [strs (qfm s),.int .i64 (qd2 s)]) h:=by
 have c0: ∀h,ACalls Tryz.prog 162 [.str s] h (.int .i64 (zz s)) h:=λh=>qD6 s h om
 by_cases g:zz s=0
 case neg=>
  have k1:(zz s=0)=False:=eqf g;have e1:qd2 s=zz s:=by unfold qd2;rw[ipo g]
  have e2:qfm s= []:=by unfold qfm;rw[e1,ine g]
  rw[e2,e1];refine acO qk1 ?_;simp (disch:=omega) only[qod,go_sem]
  repeat' first|(refine cA (c0 _) flk ?_;simp (disch:=omega) only[k1,go_sem])|(apply qb;exact rvk;simp only[go_sem])
  exact VLe.tup ⟨qU,qi,trivial⟩
 have e1:qd2 s=qcA s:=by unfold qd2;rw[ine (λe=>e g)]
 rw[g]at c0;have hz:=qxJ g;have zf1:(qem s).flag=true:=rfl;have zf2:(qem s).strip=qem s:=rfl;have hlt:=UC s;have c2:=λh=>qEY s h om hz
 have c3:=λh=>qE3 (qav s) h om
 rw[qls hl]at c3;have c4:=λh=>qGN (qav s) h om
 by_cases ge:qcA s=0
 ·have k3:(qcA s=0)=True:=eqt ge;have e2:qfm s=qdk (qav s):=by unfold qfm;rw[e1,ipo ge];rfl
  rw[e2,e1,ge];refine acO qk1 ?_;simp (disch:=omega) only[qod,go_sem]
  repeat' first|(refine cA (c0 _) flk ?_;simp (disch:=omega) only[go_sem])
  refine qE (qBb s h om) (by exact flk) ?_;simp (disch:=omega) only[zf1,zf2,go_sem]
  repeat' first|((first|refine cA (c2 _) ?_ ?_|refine cA (c3 _) ?_ ?_|refine cA (c4 _) ?_ ?_);exact flk;simp (disch:=omega) only[ge,go_sem])|exact wa|with_reducible apply aiA|exact clz|fail
 ·have k3:(qcA s=0)=False:=eqf ge;have e2:qfm s= []:=by unfold qfm;rw[e1,ine ge]
  rw[e2,e1];refine acO qk1 ?_;simp (disch:=omega) only[qod,go_sem]
  repeat' first|(refine cA (c0 _) flk ?_;simp (disch:=omega) only[go_sem])
  refine qE (qBb s h om) (by exact flk) ?_;simp (disch:=omega) only[zf1,zf2,go_sem]
  repeat' first|((first|refine cA (c2 _) ?_ ?_|refine cA (c3 _) ?_ ?_);exact flk;simp (disch:=omega) only[k3,go_sem])|(apply qb;exact rvk;simp only[go_sem])|with_reducible apply aiA|exact clz|fail
  exact VLe.tup ⟨qU,qi,trivial⟩
end RC
end
