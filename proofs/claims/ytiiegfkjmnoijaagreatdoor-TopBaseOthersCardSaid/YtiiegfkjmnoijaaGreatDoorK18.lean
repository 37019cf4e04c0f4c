import Derived.Test.YtiiegfkjmnoijaaGreatDoorK17
import Derived.Test.YtiiegfkjmnoijaaGreatDoorK3
import Derived.Test.YtiiegfkjmnoijaaGreatDoorK5
import Derived.Test.YtiiegfkjmnoijaaGreatDoorK8
import Derived.Test.YtiiegfkjmnoijaaGreatDoorProg
import Derived.Test.YtiiegfkjmnoijaaGreatDoorK14
import Derived.Test.YtiiegfkjmnoijaaGreatDoorK16
import Derived.Test.YtiiegfkjmnoijaaGreatDoorK12
import Derived.Test.YtiiegfkjmnoijaaGreatDoorK9
import Derived.Test.YtiiegfkjmnoijaaGreatDoorRows
import Derived.LaidLaws
import Derived.OpenShut
set_option linter.all false
set_option maxHeartbeats 128000000
set_option maxRecDepth 100000
section
open Go Go.Proofs AF HY LN
namespace RC
theorem qcb(h:w6):ACalls Tryz.prog 82 [.nl] h .nl h:=by
 refine acO Ec ?_;simp (disch:=omega) only[qbu,go_sem]
 repeat' first|exact wj|fail
theorem qfZ(a:Int)(h:w6):ACalls Tryz.prog 79 [qz [a],.int .i64 0] h (qz []) h:=by
 have s1:=λh=>bS h [a]
 have c1:=λh=>qeI 0 h om
 have z1: ∀g,valL g .len [qz [a]]= .int .i64 1:=λ_=>rfl
 have z2: ∀g,okL g .len [qz [a]]=True:=λ_=>eqt trivial
 have e5:IntKind.u64.wrap 1=1:=by decide
 have e6:IntKind.u64.wrap 0=0:=by decide
 rw[show ((0:Nat):Int)=0 from rfl]at c1;refine acO Oc ?_;simp (disch:=omega) only[qbY,z1,z2,e5,e6,go_sem]
 repeat' first|(refine cA (c1 _) flk ?_;simp (disch:=omega) only[s1,go_sem])|(with_reducible first|intro _|apply aiA)|exact clz|fail
 ·rfl
 refine qp (T:=λ_:Unit=>zw 48 [(7,.osl (h.length+1) 1 1 0 0),(8,.int .i64 0)]) (H:=λ_=>h++ [.emp 1,.mem 1 3 []])
  (inv:=λ_=>True) (m:=λ_=>0) () trivial (Wk.temps ?_) ?_
 ·(simp only[go_sem,qg,qc,qa,qf];try exact wr)
 rintro⟨⟩-K hK;have q1:((0:Int)<0)=False:=xD;simp (disch:=omega) only[go_sem]
 repeat' first|(apply qb;exact rvk;simp only[go_sem])|(with_reducible first|intro _|apply aiA)|exact clz|fail
 exact VLe.sl_eq rfl (λi hi=>absurd hi (nnz _))
theorem PR{hh:w6}{j v:Nat}(a:Int)(cs:w7)(hj:qv j hh=some (.mem v 3 (.int .i64 a::cs))):
  ACalls Tryz.prog 79 [.osl j v 1 0 1,.int .i64 0] hh (qz []) (qu j hh (.emp (v+1))):=by
 have hs:qK hh j=true:=by unfold qK;rw[hj]
 have e1:xu [j] hh=qu j hh (.emp (v+1)):=by show qu j hh (.emp (qn (qv j hh)+1))=_;rw[hj];rfl
 refine ACalls.frzd [j] (by show (qK hh j&&true)=true;rw[hs];rfl) ?_;rw[e1];refine (qfZ a _).le ⟨?_,qi,trivial⟩ (qi);have hc:=qL hj;have e: [j].contains j=true:=by simp
 simp only[go_sem,e,if_true,hc];rw[hj,slOf_mem,ipo ⟨rfl,by simp⟩];refine VLe.sl_eq rfl (λi hi=> ?_);obtain rfl:i=0:=by omega
 rfl
theorem qco(x:Co)(d:List Dc)(s:Int)(h:w6)(hz:yx x)(hp:kt SG h)(hg:z7 h frmN frmC)(hd:d.length<=1000000)(ht: ∀o∈d,o.txt.length<=1000)(hN0:vaE x []=0->(rwA x [] d s.toNat).length<=1000000000):
  ACalls Tryz.prog 25 [.agg (coC x),.nl,jG d,.int .i64 s] h (.tup [zV (esR x [] d s),.int .i64 (esE x [] d s)]) h:=by
 have hu:bo []:=⟨by simp,λi=>by simp;exact nzl _,λi j=>by simp;exact nzl _,λi j=>by simp;exact nzl _⟩
 have c1:=λl'=>(WA x [] (h++l') hz hu (hp.app l')).le (args:= [.agg (coC x),.nl]) ⟨qi,qY,trivial⟩ (qi)
 have zu: ∀g l,valL g .len [zf l]= .int .i64 l.length:=λ_ _=>rfl
 have zv: ∀g l,okL g .len [zf l]=True:=λ_ _=>eqt trivial
 have zu1: ∀g l,valL g .len [strs l]= .int .i64 l.length:=λ_ _=>rfl
 have zv1: ∀g l,okL g .len [strs l]=True:=λ_ _=>eqt trivial
 have hE:esE x [] d s=(if vaE x []≠0 then vaE x [] else if s<0∨(x.sig.length:Int)<=s then 2 else if az x [] d≠0 then az x [] d else if 1024<(rwA x [] d s.toNat).length then 4 else 0):=rfl;unfold esR
 by_cases g:vaE x []=0
 case neg=>
  have k1:(vaE x []=0)=False:=eqf g;rw[ipo g]at hE;rw[hE,ine g];unfold coC at c1;refine acO yj ?_;simp (disch:=omega) only[mi,coC,go_sem]
  repeat' first|(refine cA (c1 _) flk ?_;simp (disch:=omega) only[k1,go_sem])|(apply qb;exact rvk;simp only[go_sem])
  exact VLe.tup ⟨qY,qi,trivial⟩
 rw[ine (by simpa using g)]at hE;have hN:=hN0 g;simp only[g]at c1;obtain⟨hca,hus,hcv⟩:=dk g;have ho:=kh hca
 by_cases g2:s<0
 ·have k2:(s<0)=True:=eqt g2;rw[ipo (.inl g2)]at hE;rw[hE,ine (by decide)];unfold coC at c1;refine acO yj ?_;simp (disch:=omega) only[mi,coC,go_sem]
  repeat' first|(refine cA (c1 _) flk ?_;simp (disch:=omega) only[k2,go_sem])|(apply qb;exact rvk;simp only[go_sem])
  exact VLe.tup ⟨qY,qi,trivial⟩
 have k2:(s<0)=False:=eqf g2
 by_cases g3:(x.sig.length:Int)<=s
 ·have k3:((x.sig.length:Int)<=s)=True:=eqt g3;rw[ipo (.inr g3)]at hE;rw[hE,ine (by decide)];unfold coC at c1;refine acO yj ?_;simp (disch:=omega) only[mi,coC,go_sem]
  repeat' first|(refine cA (c1 _) flk ?_;simp (disch:=omega) only[k2,k3,zu1,zv1,go_sem])|(apply qb;exact rvk;simp only[go_sem])
  exact VLe.tup ⟨qY,qi,trivial⟩
 have k3:((x.sig.length:Int)<=s)=False:=eqf g3;rw[ine (λe=>e.elim g2 g3)]at hE;have c2:=λl'=>(qdl x [] d (h++l') hz hu (hp.app l') hg.app hca hd ht).le (args:= [.agg (coC x),.nl,jG d]) ⟨qi,qY,qi,trivial⟩ (qi)
 unfold Pj at c2
 by_cases g4:az x [] d=0
 case neg=>
  have k4:(az x [] d=0)=False:=eqf g4;simp only[ine g4]at c2;rw[ipo g4]at hE;rw[hE,ine g4];unfold coC at c1 c2;refine acO yj ?_;simp (disch:=omega) only[mi,coC,go_sem]
  repeat' first|((first|refine cA (c1 _) ?_ ?_|refine cA (c2 _) ?_ ?_);exact flk;simp (disch:=omega) only[k2,k3,k4,zu1,zv1,go_sem])|(apply qb;exact rvk;simp only[go_sem])|with_reducible apply aiA|exact clz|fail
  exact VLe.tup ⟨qY,qi,trivial⟩
 rw[ine (by simpa using g4)]at hE;simp only[g4,if_true]at c2;rw[hE];unfold coC at c1 c2;refine acO yj ?_;simp (disch:=omega) only[mi,coC,go_sem]
 repeat' first|((first|refine cA (c1 _) ?_ ?_|refine cA (c2 _) ?_ ?_);exact flk;simp (disch:=omega) only[k2,k3,zu1,zv1,go_sem])|with_reducible apply aiA|exact clz|fail
 have hd0:d= []:=by
  cases d with
  |nil=>rfl
  |cons o r=>
   exfalso
   have:=g4
   unfold az at this;split at this
   ·cases this
   ·have h0:=jE.1 this 0 (by simp);have h1:=(w9 h0).2.2.2.2.1;have h2:jN x [] ((o::r).getD 0 default)= -1:=rfl;omega
 subst hd0;have zi: ∀g l,valL g .len [qz l]= .int .i64 l.length:=λ_ _=>rfl
 have zj: ∀g l,okL g .len [qz l]=True:=λ_ _=>eqt trivial
 have ePL:(plG x [] [] ([]:List Dc).length).length=0:=rfl;refine qE (PR (j:=h.length+2) (-1) (List.drop 1 (zU [.int .i64 0] 1)) ?j1) (by exact flk) ?_
 case j1=>simp only[go_sem]
 simp (disch:=omega) only[zi,zj,go_sem];refine qp (T:=λ_:Unit=>zw 154 [(1,.nl),(3,.int .i64 s),(4,.op h.length 1 0),(13,qz []),(56,.int .i64 0),(57,.int .i64 0)])
  (H:=λ_=>h++ [.mem 1 26 [.str x.sec,strs x.sig,qm x.tok,qo x.col],.emp 1,.emp 2,.emp 0,.emp 0,.emp 0,.emp 0,.emp 0,.emp 0,.emp 0,.emp 0,.emp 0,.emp 0,.emp 0,.emp 0,.emp 0])
  (inv:=λ_=>True) (m:=λ_=>0) () trivial (Wk.temps ?_) ?_
 ·(simp only[go_sem,qg,qc,qa,qf];try exact wr)
 rintro⟨⟩-K hK;have q1:((0:Int)<0)=False:=xD;simp (disch:=omega) only[q1,go_sem];refine⟨_,_,Wk.ownNil (j:=h.length+3) (i:=0) (k:=h.length+15) (v:=1) (ty:=29) (cs:= [.nl]) (ve:=0) (sz:=7) ?m1 rfl ?m2,?_⟩
 case m1=>simp only[go_sem]
 case m2=>simp only[go_sem]
 simp (disch:=omega) only[List.set_cons_zero,go_sem];have bne5:(h.length+6 !=h.length+5)=true:=by simp
 have zc: ∀g l,valL g .len [qo l]= .int .i64 l.length:=λ_ _=>rfl
 have zd: ∀g l,okL g .len [qo l]=True:=λ_ _=>eqt trivial
 refine jL ?T ?H ?h1 ?h2
 case h1=>
  simp (disch:=omega) only[zc,zd,go_sem]
  repeat' first|(with_reducible apply aiA)|(refine qE (qcb _) (by exact flk) ?_;simp (disch:=omega) only[zc,zd,go_sem])
  all_goals first
   |omega
   |rfl
   |exact bne5
 case h2=>
 simp (disch:=omega) only[go_sem];obtain⟨S,hS⟩: ∃S:Nat,s=S:=⟨s.toNat,om⟩
 subst hS;rw[itn]at hN ⊢;have hSl:S<x.sig.length:=by omega
 obtain⟨MC,hMC⟩:=wD ( [AV.int .i64 x.col.length,.int .i64 x.col.length,.nl])
 rw[<-hMC];obtain⟨O5,hO5⟩:=wD (AObj.mem 1 64 (AV.int .i64 x.col.length:: .int .i64 x.col.length:: .nl::List.drop 3 (zU [.int .i64 0,.int .i64 0,.nl] 1)))
 rw[<-hO5];obtain⟨X0,hX0⟩:=wD (AObj.mem 1 26 [.str x.sec,strs x.sig,qm x.tok,qo x.col])
 have lX0: ∀n,lowO n X0:=by
  intro n;rw[hX0];intro c hc;simp at hc;rcases hc with rfl|rfl|rfl|rfl<;>rfl
 refine qp (T:=λi:EsS=>zw 154 [(1,.nl),(3,.int .i64 (S:Int)),(4,.op h.length 1 0),(13,qz []),(16,.op (h.length+3) 1 0),(17,.op (h.length+4) 1 0),(18,.int .i64 (nxT x [] i.k:Int)),(78,.osl (h.length+6) 1 3 0 1),(79,.int .i64 1),(80,.int .i64 i.k)])
  (H:=λi=>h++ [.mem 1 26 [.str x.sec,strs x.sig,qm x.tok,qo x.col],.emp 1,.emp 2,.mem 1 29 [.osl (h.length+15) i.vb 7 0 (rwK x [] [] S i.k).length],.mem 1 121 [.fn (.func 80) [] [.op (h.length+3) 1 0]],O5,.mem 1 64 MC,i.O7,i.O8,i.O9,i.O10,i.O11,i.O12,.emp 0,.emp 0,zE i.vb 36 (jC (bsW (rwK x [] [] S i.k)))])
  (inv:=λi=>i.k<=1∧ ∀O∈ [i.O7,i.O8,i.O9,i.O10,i.O11,i.O12],qK [O] 0=true∧ ∀n,lowO n O) (m:=λi=>1-i.k) ⟨0,0,.emp 0,.emp 0,.emp 0,.emp 0,.emp 0,.emp 0⟩ ⟨nzl _,λO hO=>by
   simp at hO;subst hO;exact⟨rfl,λ_=>trivial⟩⟩ (Wk.temps ?_) ?_
 ·(simp only[go_sem,qg,qc,qa,qf];try (repeat' first|(with_reducible apply aiA)|(apply qe;omega)|(apply qd;rfl)|exact qi))
  done
 rintro⟨k,vb,O7,O8,O9,O10,O11,O12⟩ ⟨i1,i2⟩ K hK;simp only at i1 i2 hK;obtain⟨s7,l7⟩:=i2 O7 (by simp);obtain⟨s8,l8⟩:=i2 O8 (by simp);obtain⟨s9,l9⟩:=i2 O9 (by simp);obtain⟨s10,l10⟩:=i2 O10 (by simp);obtain⟨s11,l11⟩:=i2 O11 (by simp);obtain⟨s12,l12⟩:=i2 O12 (by simp);have s7': ∀m,qK (O7::m) 0=true:=λ_=>s7
 have s8': ∀m,qK (O8::m) 0=true:=λ_=>s8
 by_cases hk:k<=0
 case neg=>
  have q1:((k:Int)<(1:Int))=False:=xD;have eR:rwK x [] [] S k=rwA x [] [] S:=by unfold rwK;rw[lnl,ine hk]
  rw[eR]
  by_cases g5:1024<(rwA x [] [] S).length
  ·have q5:((1024:Int)<(rwA x [] [] S).length)=True:=xv;simp only[ipo g5];simp (disch:=omega) only[q1,q5,go_sem]
   repeat' first|(apply qb;exact rvk;simp only[go_sem])|with_reducible apply aiA|exact clz|fail
   exact VLe.tup ⟨qY,qi,trivial⟩
  ·have q5:((1024:Int)<(rwA x [] [] S).length)=False:=xD;simp only[ine g5];simp (disch:=omega) only[q1,q5,go_sem]
   repeat' first|(apply qb;exact rvk;simp only[go_sem])|with_reducible apply aiA|exact clz|fail
   exact VLe.tup ⟨bR (jD _).symm,qi,trivial⟩
 have q1:((k:Int)<(1:Int))=True:=xv;have q2:(0<=(k:Int))=True:=xv;have hk0:k=0:=by omega
 have hMl:MC.length=3:=by rw[hMC];rfl
 have q3:(k*3+3<=MC.length)=True:=xv;have eR:rwK x [] [] S k=rwL x [] [] S k:=by unfold rwK;rw[lnl,ipo hk]
 have eN:nxT x [] k=zx [] k:=by unfold nxT;rw[lnl,ipo hk]
 rw[eR,eN];obtain⟨f,hf⟩:=wD x.col.length
 obtain⟨t',ht'⟩:=wD x.col.length
 obtain⟨RV,hRV⟩:=wD AV.nl
 have eM:List.take 3 (List.drop (k*3) MC)= [.int .i64 (f:Int),.int .i64 (t':Int),RV]:=by rw[hk0,hMC,hf,ht',hRV];rfl
 have a5:zx [] k<=f:=by rw[hk0];exact nzl _
 have a6:f<=x.col.length:=by omega
 have lRV: ∀n,ze n RV=true:=λn=>by rw[hRV];rfl
 have c3:=λh=>Rf x (zx [] k) f S h
 have hit:=itS x S (zx [] k) f hz ho hSl a6 a5;have hpF:=xz ho hSl (f:=zx [] k) (d:=f-zx [] k) om;obtain⟨ps,hps⟩:=wD (spk x S (zx [] k) (f-zx [] k))
 have hxl:(spX x S (zx [] k) (f-zx [] k))=ps.map λp=> [.agg (pcC p)]:=by unfold spX;rw[hps]
 rw[hxl]at hit;rw[<-hps]at hpF;unfold coC at c3 hit;simp (disch:=omega) only[q1,q2,q3,eM,s7',s8',go_sem]
 repeat' first|(refine cA (c3 _) flk ?_;simp (disch:=omega) only[go_sem])|with_reducible apply aiA|exact clz|fail
 obtain⟨L0,hL0⟩:=wD (rwL x [] [] S k)
 have hLF: ∀r∈L0,PcF r.p:=by rw[hL0];exact nf ho hus hSl (λi hi=>absurd hi (by simp)) hk
 have hLn:(L0++rwM ps (-1) (-1)).length<=1000000000:=by
  refine Nat.le_trans ?_ hN;rw[hL0,hps,hf,hk0];exact nlr _
 rw[<-hL0];obtain⟨P7,hP7⟩:=wD (AObj.mem (qn (some O7)+1) 3 [.int .i64 (k:Int)])
 obtain⟨P8,hP8⟩:=wD (AObj.mem (qn (some O8)+1) 64 [.int .i64 (f:Int),.int .i64 (t':Int),RV])
 have hP7l:qK [P7] 0=true∧ ∀n,lowO n P7:=by
  rw[hP7];refine⟨rfl,λn c hc=> ?_⟩;rw[List.mem_singleton]at hc;subst hc;rfl
 have hP8l:qK [P8] 0=true∧ ∀n,lowO n P8:=by
  rw[hP8];refine⟨rfl,λn c hc=> ?_⟩;simp only[List.mem_cons,List.not_mem_nil,or_false]at hc;rcases hc with rfl|rfl|rfl
  ·rfl
  ·rfl
  ·exact lRV n
 have cP7: ∀m,cellsOf (P7::m) 0 (qn (some O7)+1)=some [.int .i64 (k:Int)]:=λm=>by rw[hP7];simp only[go_sem]
 rw[<-hP7,<-hP8];have lP: ∀L:List Rw,∀v n,lowO n (zE v 36 (jC (bsW L))):=λL v n=>ju (bW _ n)
 have hLow: ∀(L M:List Rw) (v w:Nat) O A,(∀n,lowO n A)->LowI (h++ [.mem 1 26 [.str x.sec,strs x.sig,qm x.tok,qo x.col],.emp 1,.emp 2,.mem 1 29 [.osl (h.length+15) w 7 0 M.length],.mem 1 121 [.fn (.func 80) [] [.op (h.length+3) 1 0]],O5,.mem 1 64 MC,P7,P8,O,O10,O11,O12,.emp 0,.emp 0,zE w 36 (jC (bsW M))])
   (h++ [.mem 1 26 [.str x.sec,strs x.sig,qm x.tok,qo x.col],.emp 1,.emp 2,.mem 1 29 [.osl (h.length+15) v 7 0 L.length],.mem 1 121 [.fn (.func 80) [] [.op (h.length+3) 1 0]],O5,.mem 1 64 MC,P7,P8,A,O10,O11,O12,.emp 0,.emp 0,zE v 36 (jC (bsW L))]):=λL M v w O A lA=>by
  refine⟨by simp,λo ho=> ?_⟩;rcases List.mem_append.1 ho with h1|h1
  ·exact .inl (List.mem_append_left _ h1)
  ·simp only[List.mem_cons,List.not_mem_nil,or_false]at h1;rcases h1 with rfl|rfl|rfl|rfl|rfl|rfl|rfl|rfl|rfl|rfl|rfl|rfl|rfl|rfl|rfl|rfl
   ·left;simp
   ·left;simp
   ·left;simp
   ·right;refine⟨λc hc=> ?_,λc hc=> ?_⟩<;>
    ·rw[List.mem_singleton]at hc;subst hc;simp[ze]
     try omega
   ·left;simp
   ·left;simp
   ·left;simp
   ·left;simp
   ·left;simp
   ·right;exact⟨lA _,lA _⟩
   ·left;simp
   ·left;simp
   ·left;simp
   ·left;simp
   ·left;simp
   ·right;exact⟨lP _ _ _,lP _ _ _⟩
 refine zJ hit (λa ha=> ?_)
  (S:=λi hh=> ∃A,qK [A] 0=true∧(∀n,lowO n A)∧hh=h++ [.mem 1 26 [.str x.sec,strs x.sig,qm x.tok,qo x.col],.emp 1,.emp 2,.mem 1 29 [.osl (h.length+15) (vb+i) 7 0 (L0++rwM (ps.take i) (-1) (-1)).length],.mem 1 121 [.fn (.func 80) [] [.op (h.length+3) 1 0]],O5,.mem 1 64 MC,P7,P8,A,O10,O11,O12,.emp 0,.emp 0,zE (vb+i) 36 (jC (bsW (L0++rwM (ps.take i) (-1) (-1))))]) (E:=λ_ _=>False) ?_ ?_ ?_ ?_ ?_ ?_ ?_
 ·obtain⟨c,_,rfl⟩:=List.mem_map.1 ha;rfl
 ·rintro i hh ⟨A,_,lA,rfl⟩;exact hLow _ _ _ _ _ _ lA
 ·intro s hh hf;exact hf.elim
 ·exact⟨O9,s9,l9,by simp[rwM]⟩
 ·simp[ze,ze.lowVs]
  repeat' apply aiA
  all_goals first|rfl|omega|exact lRV _
 ·rintro i hh tl LI TS hi ⟨A,sA,lA,rfl⟩ hlen K1 K2 hK1 hN1 hR1 hX1;have hi':i<ps.length:=by rw[List.length_map]at hi;exact hi
  rw[List.getElem_map];have sA': ∀m,qK (A::m) 0=true:=λ_=>sA
  have hS:L0++rwM (ps.take (i+1)) (-1) (-1)=(L0++rwM (ps.take i) (-1) (-1))++ [⟨ps.getD i default,-1,-1⟩]:=by
   unfold rwM;rw[List.take_add_one,zG hi',List.map_append,gdqA,zG hi',List.append_assoc];rfl
  have eG:ps[i]=ps.getD i default:=by rw[gdqA,zG hi'];rfl
  rw[eG];have hpm:ps.getD i default∈ps:=zh hi';obtain⟨p,hp'⟩:=wD (ps.getD i default)
  rw[<-hp']at hS hpm ⊢;obtain⟨M,hM⟩:=wD (L0++rwM (ps.take i) (-1) (-1))
  have hMF: ∀r∈M,PcF r.p:=λr hr=>by
   rw[hM]at hr;rcases List.mem_append.1 hr with hr|hr
   ·exact hLF r hr
   ·exact hpF _ (List.mem_of_mem_take (jz.1 hr).1)
  have hMn:M.length<=1000000000:=by
   rw[hM,lap,jF,List.length_take];rw[lap,jF]at hLn;omega
  rw[<-hM]at hS ⊢;simp only[kA,List.append_assoc,lca,lna];simp (disch:=omega) only[sA',pcC,tkC,go_sem];refine hK1 _ _ (h++ [.mem 1 26 [.str x.sec,strs x.sig,qm x.tok,qo x.col],.emp 1,.emp 2,.mem 1 29 [.osl (h.length+15) (vb+i) 7 0 M.length],.mem 1 121 [.fn (.func 80) [] [.op (h.length+3) 1 0]],O5,.mem 1 64 MC,P7,P8,(.mem (qn (some A)+1) 120 (pcC p)),O10,O11,O12,.emp 0,.emp 0,zE (vb+i) 36 (jC (bsW M))]) ?_ ?_ ?_
  ·simp[pcC,tkC]
  ·simp
  ·simp only[List.append_assoc,lca,lna];simp (disch:=omega) only[pcC,tkC,go_sem]
   repeat' first|with_reducible apply aiA|exact clz|fail
   refine kQ (Ht (a:=h.length+3) (b:=h.length+15) (c:=h.length) (va:=1) (vb:=vb+i) (Z:= .mem 1 26 [.str x.sec,strs x.sig,qm x.tok,qo x.col]) ⟨by simp,by simp,by simp,om,om,om⟩ M p (-1) (-1) (by simp only[go_sem]) (by simp only[go_sem]) (by simp only[go_sem]) (by rw[<-hX0];exact lX0) (hpF p hpm) hMn hMF) ?_;simp (disch:=omega) only[go_sem];refine hN1 _ _ (h++ [.mem 1 26 [.str x.sec,strs x.sig,qm x.tok,qo x.col],.emp 1,.emp 2,.mem 1 29 [.osl (h.length+15) (vb+(i+1)) 7 0 (M++ [(⟨p,-1,-1⟩:Rw)]).length],.mem 1 121 [.fn (.func 80) [] [.op (h.length+3) 1 0]],O5,.mem 1 64 MC,P7,P8,(.mem (qn (some A)+1) 120 (pcC p)),O10,O11,O12,.emp 0,.emp 0,zE (vb+(i+1)) 36 (jC (bsW (M++ [(⟨p,-1,-1⟩:Rw)])))]) ?_ ?_ ⟨_,rfl,?_,by rw[hS]⟩
   ·simp[pcC,tkC,Nat.add_assoc]
   ·simp
   ·intro n c hc;simp[pcC,tkC]at hc;rcases hc with rfl|rfl|rfl|rfl|rfl|rfl|rfl<;>rfl
 ·rintro hh ⟨A,sA,lA,rfl⟩;rw[List.length_map,List.take_length];obtain⟨L1,hL1⟩:=wD (L0++rwM ps (-1) (-1))
  rw[<-hL1]
  by_cases hkl:k<0
  case neg=>
   have hke:k=0:=by omega
   obtain⟨b1,b2⟩:f=x.col.length∧t'=x.col.length:=⟨hf,ht'⟩
   have q4:((k:Int)=0)=True:=xv;rw[hP7,hP8];simp (disch:=omega) only[q4,go_sem]
   repeat' first|with_reducible apply aiA|exact clz|fail
   rw[<-hP7,<-hP8];have e1:rwK x [] [] S (k+1)=L1:=by
    unfold rwK;rw[ine (by simp),hL1,hL0,hps,b1,hke];rfl
   have e2:nxT x [] (k+1)=t':=by unfold nxT;rw[ine (by simp),b2]
   refine hK _ _ ⟨k+1,vb+ps.length,P7,P8,A,O10,O11,O12⟩ ⟨by simp only;omega,λO hO=> ?_⟩ (by simp only;omega) ?_
   ·simp only[List.mem_cons,List.not_mem_nil,or_false]at hO;rcases hO with rfl|rfl|rfl|rfl|rfl|rfl
    ·exact hP7l
    ·exact hP8l
    ·exact⟨sA,lA⟩
    ·exact⟨s10,l10⟩
    ·exact⟨s11,l11⟩
    ·exact⟨s12,l12⟩
   ·simp only[e1,e2];refine Wk.temps ?_
    (simp only[go_sem,qg,qc,qa,qf];try exact wr)
  exact absurd hkl (nnz k)
 ·intro e hh hf;exact hf.elim
theorem qcc(h:w6)(k:Nat)(hk:qK h k=true):ACalls Tryz.prog 82 [.el] h (.osl k (qn (qv k h)+1) 3 0 0) (qu k h (.mem (qn (qv k h)+1) 64 [])):=by
 refine bX Ec k (by simp) ?_;simp only[lco,lnl,Nat.reduceAdd,Nat.reduceSub,List.replicate,lca,lna];simp (disch:=omega) only[qbu,go_sem]
 repeat' first|(with_reducible apply aiA)
 all_goals first
  |omega
  |contradiction
  |skip
 all_goals try rfl
 exact⟨h.length+1,2,3,0,0,64,[],_,⟨trivial,trivial⟩,rfl,rfl,om,by simp only[go_sem],(λc hc=>by cases hc),hk,rfl,rfl⟩
theorem qcp(x:Co)(d:List Dc)(s:Int)(h:w6)(hz:yx x)(hp:kt SG h)(hg:z7 h frmN frmC)(hd:d.length<=1000000)(ht: ∀o∈d,o.txt.length<=1000)(hN0:vaE x []=0->(rwA x [] d s.toNat).length<=1000000000):
  ACalls Tryz.prog 25 [.agg (coC x),.el,jG d,.int .i64 s] h (.tup [zV (esR x [] d s),.int .i64 (esE x [] d s)]) h:=by
 have hu:bo []:=⟨by simp,λi=>by simp;exact nzl _,λi j=>by simp;exact nzl _,λi j=>by simp;exact nzl _⟩
 have c1:=λl'=>(WA x [] (h++l') hz hu (hp.app l')).le (args:= [.agg (coC x),.el]) ⟨qi,AQ,trivial⟩ (qi)
 have zu: ∀g l,valL g .len [zf l]= .int .i64 l.length:=λ_ _=>rfl
 have zv: ∀g l,okL g .len [zf l]=True:=λ_ _=>eqt trivial
 have zu1: ∀g l,valL g .len [strs l]= .int .i64 l.length:=λ_ _=>rfl
 have zv1: ∀g l,okL g .len [strs l]=True:=λ_ _=>eqt trivial
 have hE:esE x [] d s=(if vaE x []≠0 then vaE x [] else if s<0∨(x.sig.length:Int)<=s then 2 else if az x [] d≠0 then az x [] d else if 1024<(rwA x [] d s.toNat).length then 4 else 0):=rfl;unfold esR
 by_cases g:vaE x []=0
 case neg=>
  have k1:(vaE x []=0)=False:=eqf g;rw[ipo g]at hE;rw[hE,ine g];unfold coC at c1;refine acO yj ?_;simp (disch:=omega) only[mi,coC,go_sem]
  repeat' first|(refine cA (c1 _) flk ?_;simp (disch:=omega) only[k1,go_sem])|(apply qb;exact rvk;simp only[go_sem])
  exact VLe.tup ⟨qY,qi,trivial⟩
 rw[ine (by simpa using g)]at hE;have hN:=hN0 g;simp only[g]at c1;obtain⟨hca,hus,hcv⟩:=dk g;have ho:=kh hca
 by_cases g2:s<0
 ·have k2:(s<0)=True:=eqt g2;rw[ipo (.inl g2)]at hE;rw[hE,ine (by decide)];unfold coC at c1;refine acO yj ?_;simp (disch:=omega) only[mi,coC,go_sem]
  repeat' first|(refine cA (c1 _) flk ?_;simp (disch:=omega) only[k2,go_sem])|(apply qb;exact rvk;simp only[go_sem])
  exact VLe.tup ⟨qY,qi,trivial⟩
 have k2:(s<0)=False:=eqf g2
 by_cases g3:(x.sig.length:Int)<=s
 ·have k3:((x.sig.length:Int)<=s)=True:=eqt g3;rw[ipo (.inr g3)]at hE;rw[hE,ine (by decide)];unfold coC at c1;refine acO yj ?_;simp (disch:=omega) only[mi,coC,go_sem]
  repeat' first|(refine cA (c1 _) flk ?_;simp (disch:=omega) only[k2,k3,zu1,zv1,go_sem])|(apply qb;exact rvk;simp only[go_sem])
  exact VLe.tup ⟨qY,qi,trivial⟩
 have k3:((x.sig.length:Int)<=s)=False:=eqf g3;rw[ine (λe=>e.elim g2 g3)]at hE;have c2:=λl'=>(qdl x [] d (h++l') hz hu (hp.app l') hg.app hca hd ht).le (args:= [.agg (coC x),.el,jG d]) ⟨qi,AQ,qi,trivial⟩ (qi)
 unfold Pj at c2
 by_cases g4:az x [] d=0
 case neg=>
  have k4:(az x [] d=0)=False:=eqf g4;simp only[ine g4]at c2;rw[ipo g4]at hE;rw[hE,ine g4];unfold coC at c1 c2;refine acO yj ?_;simp (disch:=omega) only[mi,coC,go_sem]
  repeat' first|((first|refine cA (c1 _) ?_ ?_|refine cA (c2 _) ?_ ?_);exact flk;simp (disch:=omega) only[k2,k3,k4,zu1,zv1,go_sem])|(apply qb;exact rvk;simp only[go_sem])|with_reducible apply aiA|exact clz|fail
  exact VLe.tup ⟨qY,qi,trivial⟩
 rw[ine (by simpa using g4)]at hE;simp only[g4,if_true]at c2;rw[hE];unfold coC at c1 c2;refine acO yj ?_;simp (disch:=omega) only[mi,coC,go_sem]
 repeat' first|((first|refine cA (c1 _) ?_ ?_|refine cA (c2 _) ?_ ?_);exact flk;simp (disch:=omega) only[k2,k3,zu1,zv1,go_sem])|with_reducible apply aiA|exact clz|fail
 have hd0:d= []:=by
  cases d with
  |nil=>rfl
  |cons o r=>
   exfalso
   have:=g4
   unfold az at this;split at this
   ·cases this
   ·have h0:=jE.1 this 0 (by simp);have h1:=(w9 h0).2.2.2.2.1;have h2:jN x [] ((o::r).getD 0 default)= -1:=rfl;omega
 subst hd0;have zi: ∀g l,valL g .len [qz l]= .int .i64 l.length:=λ_ _=>rfl
 have zj: ∀g l,okL g .len [qz l]=True:=λ_ _=>eqt trivial
 have ePL:(plG x [] [] ([]:List Dc).length).length=0:=rfl;refine qE (PR (j:=h.length+2) (-1) (List.drop 1 (zU [.int .i64 0] 1)) ?j1) (by exact flk) ?_
 case j1=>simp only[go_sem]
 simp (disch:=omega) only[zi,zj,go_sem];refine qp (T:=λ_:Unit=>zw 154 [(1,.el),(3,.int .i64 s),(4,.op h.length 1 0),(13,qz []),(56,.int .i64 0),(57,.int .i64 0)])
  (H:=λ_=>h++ [.mem 1 26 [.str x.sec,strs x.sig,qm x.tok,qo x.col],.emp 1,.emp 2,.emp 0,.emp 0,.emp 0,.emp 0,.emp 0,.emp 0,.emp 0,.emp 0,.emp 0,.emp 0,.emp 0,.emp 0,.emp 0])
  (inv:=λ_=>True) (m:=λ_=>0) () trivial (Wk.temps ?_) ?_
 ·(simp only[go_sem,qg,qc,qa,qf];try exact wr)
 rintro⟨⟩-K hK;have q1:((0:Int)<0)=False:=xD;simp (disch:=omega) only[q1,go_sem];refine⟨_,_,Wk.ownNil (j:=h.length+3) (i:=0) (k:=h.length+15) (v:=1) (ty:=29) (cs:= [.nl]) (ve:=0) (sz:=7) ?m1 rfl ?m2,?_⟩
 case m1=>simp only[go_sem]
 case m2=>simp only[go_sem]
 simp (disch:=omega) only[List.set_cons_zero,go_sem];have bne5:(h.length+14 !=h.length+5)=true:=by simp
 have zc: ∀g l,valL g .len [qo l]= .int .i64 l.length:=λ_ _=>rfl
 have zd: ∀g l,okL g .len [qo l]=True:=λ_ _=>eqt trivial
 refine jL ?T ?H ?h1 ?h2
 case h1=>
  simp (disch:=omega) only[zc,zd,go_sem]
  repeat' first|(with_reducible apply aiA)|(refine qE (qcc _ (h.length+14) (by simp only[go_sem])) (by exact flk) ?_;simp (disch:=omega) only[zc,zd,go_sem])
  all_goals first
   |omega
   |rfl
   |exact bne5
 case h2=>
 simp (disch:=omega) only[go_sem];obtain⟨S,hS⟩: ∃S:Nat,s=S:=⟨s.toNat,om⟩
 subst hS;rw[itn]at hN ⊢;have hSl:S<x.sig.length:=by omega
 obtain⟨MC,hMC⟩:=wD ( [AV.int .i64 x.col.length,.int .i64 x.col.length,.nl])
 rw[<-hMC];obtain⟨O5,hO5⟩:=wD (AObj.mem 1 64 (AV.int .i64 x.col.length:: .int .i64 x.col.length:: .nl::List.drop 3 (zU [.int .i64 0,.int .i64 0,.nl] 1)))
 rw[<-hO5];obtain⟨X0,hX0⟩:=wD (AObj.mem 1 26 [.str x.sec,strs x.sig,qm x.tok,qo x.col])
 have lX0: ∀n,lowO n X0:=by
  intro n;rw[hX0];intro c hc;simp at hc;rcases hc with rfl|rfl|rfl|rfl<;>rfl
 refine qp (T:=λi:EsS=>zw 154 [(1,.el),(3,.int .i64 (S:Int)),(4,.op h.length 1 0),(13,qz []),(16,.op (h.length+3) 1 0),(17,.op (h.length+4) 1 0),(18,.int .i64 (nxT x [] i.k:Int)),(78,.osl (h.length+14) 2 3 0 1),(79,.int .i64 1),(80,.int .i64 i.k)])
  (H:=λi=>h++ [.mem 1 26 [.str x.sec,strs x.sig,qm x.tok,qo x.col],.emp 1,.emp 2,.mem 1 29 [.osl (h.length+15) i.vb 7 0 (rwK x [] [] S i.k).length],.mem 1 121 [.fn (.func 80) [] [.op (h.length+3) 1 0]],O5,.emp 0,i.O7,i.O8,i.O9,i.O10,i.O11,i.O12,.emp 0,.mem 2 64 MC,zE i.vb 36 (jC (bsW (rwK x [] [] S i.k)))])
  (inv:=λi=>i.k<=1∧ ∀O∈ [i.O7,i.O8,i.O9,i.O10,i.O11,i.O12],qK [O] 0=true∧ ∀n,lowO n O) (m:=λi=>1-i.k) ⟨0,0,.emp 0,.emp 0,.emp 0,.emp 0,.emp 0,.emp 0⟩ ⟨nzl _,λO hO=>by
   simp at hO;subst hO;exact⟨rfl,λ_=>trivial⟩⟩ (Wk.temps ?_) ?_
 ·(simp only[go_sem,qg,qc,qa,qf];try (repeat' first|(with_reducible apply aiA)|(apply qe;omega)|(apply qd;rfl)|exact qi))
  done
 rintro⟨k,vb,O7,O8,O9,O10,O11,O12⟩ ⟨i1,i2⟩ K hK;simp only at i1 i2 hK;obtain⟨s7,l7⟩:=i2 O7 (by simp);obtain⟨s8,l8⟩:=i2 O8 (by simp);obtain⟨s9,l9⟩:=i2 O9 (by simp);obtain⟨s10,l10⟩:=i2 O10 (by simp);obtain⟨s11,l11⟩:=i2 O11 (by simp);obtain⟨s12,l12⟩:=i2 O12 (by simp);have s7': ∀m,qK (O7::m) 0=true:=λ_=>s7
 have s8': ∀m,qK (O8::m) 0=true:=λ_=>s8
 by_cases hk:k<=0
 case neg=>
  have q1:((k:Int)<(1:Int))=False:=xD;have eR:rwK x [] [] S k=rwA x [] [] S:=by unfold rwK;rw[lnl,ine hk]
  rw[eR]
  by_cases g5:1024<(rwA x [] [] S).length
  ·have q5:((1024:Int)<(rwA x [] [] S).length)=True:=xv;simp only[ipo g5];simp (disch:=omega) only[q1,q5,go_sem]
   repeat' first|(apply qb;exact rvk;simp only[go_sem])|with_reducible apply aiA|exact clz|fail
   exact VLe.tup ⟨qY,qi,trivial⟩
  ·have q5:((1024:Int)<(rwA x [] [] S).length)=False:=xD;simp only[ine g5];simp (disch:=omega) only[q1,q5,go_sem]
   repeat' first|(apply qb;exact rvk;simp only[go_sem])|with_reducible apply aiA|exact clz|fail
   exact VLe.tup ⟨bR (jD _).symm,qi,trivial⟩
 have q1:((k:Int)<(1:Int))=True:=xv;have q2:(0<=(k:Int))=True:=xv;have hk0:k=0:=by omega
 have hMl:MC.length=3:=by rw[hMC];rfl
 have q3:(k*3+3<=MC.length)=True:=xv;have eR:rwK x [] [] S k=rwL x [] [] S k:=by unfold rwK;rw[lnl,ipo hk]
 have eN:nxT x [] k=zx [] k:=by unfold nxT;rw[lnl,ipo hk]
 rw[eR,eN];obtain⟨f,hf⟩:=wD x.col.length
 obtain⟨t',ht'⟩:=wD x.col.length
 obtain⟨RV,hRV⟩:=wD AV.nl
 have eM:List.take 3 (List.drop (k*3) MC)= [.int .i64 (f:Int),.int .i64 (t':Int),RV]:=by rw[hk0,hMC,hf,ht',hRV];rfl
 have a5:zx [] k<=f:=by rw[hk0];exact nzl _
 have a6:f<=x.col.length:=by omega
 have lRV: ∀n,ze n RV=true:=λn=>by rw[hRV];rfl
 have c3:=λh=>Rf x (zx [] k) f S h
 have hit:=itS x S (zx [] k) f hz ho hSl a6 a5;have hpF:=xz ho hSl (f:=zx [] k) (d:=f-zx [] k) om;obtain⟨ps,hps⟩:=wD (spk x S (zx [] k) (f-zx [] k))
 have hxl:(spX x S (zx [] k) (f-zx [] k))=ps.map λp=> [.agg (pcC p)]:=by unfold spX;rw[hps]
 rw[hxl]at hit;rw[<-hps]at hpF;unfold coC at c3 hit;simp (disch:=omega) only[q1,q2,q3,eM,s7',s8',go_sem]
 repeat' first|(refine cA (c3 _) flk ?_;simp (disch:=omega) only[go_sem])|with_reducible apply aiA|exact clz|fail
 obtain⟨L0,hL0⟩:=wD (rwL x [] [] S k)
 have hLF: ∀r∈L0,PcF r.p:=by rw[hL0];exact nf ho hus hSl (λi hi=>absurd hi (by simp)) hk
 have hLn:(L0++rwM ps (-1) (-1)).length<=1000000000:=by
  refine Nat.le_trans ?_ hN;rw[hL0,hps,hf,hk0];exact nlr _
 rw[<-hL0];obtain⟨P7,hP7⟩:=wD (AObj.mem (qn (some O7)+1) 3 [.int .i64 (k:Int)])
 obtain⟨P8,hP8⟩:=wD (AObj.mem (qn (some O8)+1) 64 [.int .i64 (f:Int),.int .i64 (t':Int),RV])
 have hP7l:qK [P7] 0=true∧ ∀n,lowO n P7:=by
  rw[hP7];refine⟨rfl,λn c hc=> ?_⟩;rw[List.mem_singleton]at hc;subst hc;rfl
 have hP8l:qK [P8] 0=true∧ ∀n,lowO n P8:=by
  rw[hP8];refine⟨rfl,λn c hc=> ?_⟩;simp only[List.mem_cons,List.not_mem_nil,or_false]at hc;rcases hc with rfl|rfl|rfl
  ·rfl
  ·rfl
  ·exact lRV n
 have cP7: ∀m,cellsOf (P7::m) 0 (qn (some O7)+1)=some [.int .i64 (k:Int)]:=λm=>by rw[hP7];simp only[go_sem]
 rw[<-hP7,<-hP8];have lP: ∀L:List Rw,∀v n,lowO n (zE v 36 (jC (bsW L))):=λL v n=>ju (bW _ n)
 have hLow: ∀(L M:List Rw) (v w:Nat) O A,(∀n,lowO n A)->LowI (h++ [.mem 1 26 [.str x.sec,strs x.sig,qm x.tok,qo x.col],.emp 1,.emp 2,.mem 1 29 [.osl (h.length+15) w 7 0 M.length],.mem 1 121 [.fn (.func 80) [] [.op (h.length+3) 1 0]],O5,.emp 0,P7,P8,O,O10,O11,O12,.emp 0,.mem 2 64 MC,zE w 36 (jC (bsW M))])
   (h++ [.mem 1 26 [.str x.sec,strs x.sig,qm x.tok,qo x.col],.emp 1,.emp 2,.mem 1 29 [.osl (h.length+15) v 7 0 L.length],.mem 1 121 [.fn (.func 80) [] [.op (h.length+3) 1 0]],O5,.emp 0,P7,P8,A,O10,O11,O12,.emp 0,.mem 2 64 MC,zE v 36 (jC (bsW L))]):=λL M v w O A lA=>by
  refine⟨by simp,λo ho=> ?_⟩;rcases List.mem_append.1 ho with h1|h1
  ·exact .inl (List.mem_append_left _ h1)
  ·simp only[List.mem_cons,List.not_mem_nil,or_false]at h1;rcases h1 with rfl|rfl|rfl|rfl|rfl|rfl|rfl|rfl|rfl|rfl|rfl|rfl|rfl|rfl|rfl|rfl
   ·left;simp
   ·left;simp
   ·left;simp
   ·right;refine⟨λc hc=> ?_,λc hc=> ?_⟩<;>
    ·rw[List.mem_singleton]at hc;subst hc;simp[ze]
     try omega
   ·left;simp
   ·left;simp
   ·left;simp
   ·left;simp
   ·left;simp
   ·right;exact⟨lA _,lA _⟩
   ·left;simp
   ·left;simp
   ·left;simp
   ·left;simp
   ·left;simp
   ·right;exact⟨lP _ _ _,lP _ _ _⟩
 refine zJ hit (λa ha=> ?_)
  (S:=λi hh=> ∃A,qK [A] 0=true∧(∀n,lowO n A)∧hh=h++ [.mem 1 26 [.str x.sec,strs x.sig,qm x.tok,qo x.col],.emp 1,.emp 2,.mem 1 29 [.osl (h.length+15) (vb+i) 7 0 (L0++rwM (ps.take i) (-1) (-1)).length],.mem 1 121 [.fn (.func 80) [] [.op (h.length+3) 1 0]],O5,.emp 0,P7,P8,A,O10,O11,O12,.emp 0,.mem 2 64 MC,zE (vb+i) 36 (jC (bsW (L0++rwM (ps.take i) (-1) (-1))))]) (E:=λ_ _=>False) ?_ ?_ ?_ ?_ ?_ ?_ ?_
 ·obtain⟨c,_,rfl⟩:=List.mem_map.1 ha;rfl
 ·rintro i hh ⟨A,_,lA,rfl⟩;exact hLow _ _ _ _ _ _ lA
 ·intro s hh hf;exact hf.elim
 ·exact⟨O9,s9,l9,by simp[rwM]⟩
 ·simp[ze,ze.lowVs]
  repeat' apply aiA
  all_goals first|rfl|omega|exact lRV _
 ·rintro i hh tl LI TS hi ⟨A,sA,lA,rfl⟩ hlen K1 K2 hK1 hN1 hR1 hX1;have hi':i<ps.length:=by rw[List.length_map]at hi;exact hi
  rw[List.getElem_map];have sA': ∀m,qK (A::m) 0=true:=λ_=>sA
  have hS:L0++rwM (ps.take (i+1)) (-1) (-1)=(L0++rwM (ps.take i) (-1) (-1))++ [⟨ps.getD i default,-1,-1⟩]:=by
   unfold rwM;rw[List.take_add_one,zG hi',List.map_append,gdqA,zG hi',List.append_assoc];rfl
  have eG:ps[i]=ps.getD i default:=by rw[gdqA,zG hi'];rfl
  rw[eG];have hpm:ps.getD i default∈ps:=zh hi';obtain⟨p,hp'⟩:=wD (ps.getD i default)
  rw[<-hp']at hS hpm ⊢;obtain⟨M,hM⟩:=wD (L0++rwM (ps.take i) (-1) (-1))
  have hMF: ∀r∈M,PcF r.p:=λr hr=>by
   rw[hM]at hr;rcases List.mem_append.1 hr with hr|hr
   ·exact hLF r hr
   ·exact hpF _ (List.mem_of_mem_take (jz.1 hr).1)
  have hMn:M.length<=1000000000:=by
   rw[hM,lap,jF,List.length_take];rw[lap,jF]at hLn;omega
  rw[<-hM]at hS ⊢;simp only[kA,List.append_assoc,lca,lna];simp (disch:=omega) only[sA',pcC,tkC,go_sem];refine hK1 _ _ (h++ [.mem 1 26 [.str x.sec,strs x.sig,qm x.tok,qo x.col],.emp 1,.emp 2,.mem 1 29 [.osl (h.length+15) (vb+i) 7 0 M.length],.mem 1 121 [.fn (.func 80) [] [.op (h.length+3) 1 0]],O5,.emp 0,P7,P8,(.mem (qn (some A)+1) 120 (pcC p)),O10,O11,O12,.emp 0,.mem 2 64 MC,zE (vb+i) 36 (jC (bsW M))]) ?_ ?_ ?_
  ·simp[pcC,tkC]
  ·simp
  ·simp only[List.append_assoc,lca,lna];simp (disch:=omega) only[pcC,tkC,go_sem]
   repeat' first|with_reducible apply aiA|exact clz|fail
   refine kQ (Ht (a:=h.length+3) (b:=h.length+15) (c:=h.length) (va:=1) (vb:=vb+i) (Z:= .mem 1 26 [.str x.sec,strs x.sig,qm x.tok,qo x.col]) ⟨by simp,by simp,by simp,om,om,om⟩ M p (-1) (-1) (by simp only[go_sem]) (by simp only[go_sem]) (by simp only[go_sem]) (by rw[<-hX0];exact lX0) (hpF p hpm) hMn hMF) ?_;simp (disch:=omega) only[go_sem];refine hN1 _ _ (h++ [.mem 1 26 [.str x.sec,strs x.sig,qm x.tok,qo x.col],.emp 1,.emp 2,.mem 1 29 [.osl (h.length+15) (vb+(i+1)) 7 0 (M++ [(⟨p,-1,-1⟩:Rw)]).length],.mem 1 121 [.fn (.func 80) [] [.op (h.length+3) 1 0]],O5,.emp 0,P7,P8,(.mem (qn (some A)+1) 120 (pcC p)),O10,O11,O12,.emp 0,.mem 2 64 MC,zE (vb+(i+1)) 36 (jC (bsW (M++ [(⟨p,-1,-1⟩:Rw)])))]) ?_ ?_ ⟨_,rfl,?_,by rw[hS]⟩
   ·simp[pcC,tkC,Nat.add_assoc]
   ·simp
   ·intro n c hc;simp[pcC,tkC]at hc;rcases hc with rfl|rfl|rfl|rfl|rfl|rfl|rfl<;>rfl
 ·rintro hh ⟨A,sA,lA,rfl⟩;rw[List.length_map,List.take_length];obtain⟨L1,hL1⟩:=wD (L0++rwM ps (-1) (-1))
  rw[<-hL1]
  by_cases hkl:k<0
  case neg=>
   have hke:k=0:=by omega
   obtain⟨b1,b2⟩:f=x.col.length∧t'=x.col.length:=⟨hf,ht'⟩
   have q4:((k:Int)=0)=True:=xv;rw[hP7,hP8];simp (disch:=omega) only[q4,go_sem]
   repeat' first|with_reducible apply aiA|exact clz|fail
   rw[<-hP7,<-hP8];have e1:rwK x [] [] S (k+1)=L1:=by
    unfold rwK;rw[ine (by simp),hL1,hL0,hps,b1,hke];rfl
   have e2:nxT x [] (k+1)=t':=by unfold nxT;rw[ine (by simp),b2]
   refine hK _ _ ⟨k+1,vb+ps.length,P7,P8,A,O10,O11,O12⟩ ⟨by simp only;omega,λO hO=> ?_⟩ (by simp only;omega) ?_
   ·simp only[List.mem_cons,List.not_mem_nil,or_false]at hO;rcases hO with rfl|rfl|rfl|rfl|rfl|rfl
    ·exact hP7l
    ·exact hP8l
    ·exact⟨sA,lA⟩
    ·exact⟨s10,l10⟩
    ·exact⟨s11,l11⟩
    ·exact⟨s12,l12⟩
   ·simp only[e1,e2];refine Wk.temps ?_
    (simp only[go_sem,qg,qc,qa,qf];try exact wr)
  exact absurd hkl (nnz k)
 ·intro e hh hf;exact hf.elim
theorem LR(x:Co)(l:List Un)(d:List Dc)(s:Int)(h:w6)(hz:yx x)(hu:bo l)(hp:kt SG h)(hg:z7 h frmN frmC)(hd:d.length<=1000000)(ht: ∀o∈d,o.txt.length<=1000)(hN0:vaE x l=0->(rwA x l d s.toNat).length<=1000000000):
  ACalls Tryz.prog 25 [.agg (coC x),zf l,jG d,.int .i64 s] h (.tup [zV (esR x l d s),.int .i64 (esE x l d s)]) h:=by
 cases l with
 |nil=>exact ACalls.sl0 (pre:= [.agg (coC x)]) (post:= [jG d,.int .i64 s]) (qco x d s h hz hp hg hd ht hN0) (qcp x d s h hz hp hg hd ht hN0)
 |cons u r=>exact qfn x (u::r) d s h hz hu hp hg (List.cons_ne_nil _ _) hd ht hN0
end RC
end
section
open Go Go.Proofs AF
end
section
open Go Go.Proofs AF
end
section
open Go Go.Proofs AF HY LN
namespace RC
def qdp:Str:= [118,101,114,101]
def qA:List Wd:= [⟨gv,0,-1,-1,false,false,[]⟩,⟨qbz,1,0,-1,false,false,[]⟩,⟨JZ,2,-1,-1,false,false,[]⟩]
def qB:List Wd:= [⟨gv,0,-1,-1,false,false,[]⟩,⟨JZ,2,-1,-1,false,false,[]⟩]
def qC:List Wd:= [⟨gv,0,-1,-1,false,false,[]⟩,⟨qdp,1,0,0,false,false,[]⟩,⟨[44],1,0,0,true,false,[]⟩,⟨[101,116],1,0,0,false,false,[]⟩,⟨JZ,2,-1,-1,false,false,[]⟩]
structure Ld where
 s:Int
 t:Str
 k:Int
theorem Es{x:Co}{l:List Un}{b:List Wd}(h:wJ x l=true){k:Nat}(hk:k<l.length){t:Nat}(ht:t<x.sig.length):
  (t:Int)∈hsK l b k↔owG b (k:Int) b.length=rdG x t (frN l k) (toN l k-frN l k):=by
 obtain⟨_,_,_,_,e⟩:=jO h hk;have hi:=bO x (frN l k) (toN l k);have hh:=fX x (frN l k) (toN l k);obtain⟨L,hL⟩:=wD (dG x (frN l k) (toN l k))
 rw[<-hL]at e hi hh;obtain⟨j,h1,h2,h3,h4,h5⟩:=JA hh hi ht;unfold hsK brK;rw[e];rcases zI (λr=>decide ((L.getD r default).words=owG b (k:Int) b.length)) L.length with⟨i,g1,g2,_,g4⟩|⟨g1,g2⟩
 ·rw[g4,ipo om,itn];have g2:=of_decide_eq_true g2;rw[h5 i g1];constructor
  ·intro e;rw[<-g2,e,h4]
  ·intro e;rcases Nat.lt_trichotomy i j with q|q|q
   ·exact absurd (by rw[g2,e,h4]) (hi.ne i j q h2)
   ·exact q
   ·exact absurd (by rw[g2,e,h4]) (hi.ne j i q g1)
 ·rw[g2,ine om];constructor
  ·intro e;cases e
  ·intro e
   have:=of_decide_eq_false (g1 j h2)
   exact absurd (h4.trans e.symm) this
theorem VX{n t:Nat}(h:t<n):(t:Int)∈tP n:=by
 unfold tP;exact List.mem_map.2 ⟨t,List.mem_range.2 h,rfl⟩
theorem mC{L:List Rw}{i:Nat}(hi:i<L.length):((bsW L).getD i default).unit=(L.getD i default).u:=by rw[xm hi];rfl
theorem A1{L:List Rw}{i:Nat}(hi:i<L.length):((bsW L).getD i default).dec=(L.getD i default).d:=by rw[xm hi];rfl
theorem AZ{L:List Rw}{i:Nat}(hi:i<L.length):((bsW L).getD i default).col=(L.getD i default).p.c:=by rw[xm hi];rfl
theorem mB{L:List Rw}{i:Nat}(hi:i<L.length):((bsW L).getD i default).text=(L.getD i default).p.t.text:=by rw[xm hi];rfl
theorem B7{x:Co}{l:List Un}{d:List Dc}{s:Nat}(h:wt x l d s){i:Nat}(hi:i<(rwA x l d s).length){t:Nat}(ht:t<x.sig.length):
  (t:Int)∈soK x l (bsW (rwA x l d s)) i↔(((rwA x l d s).getD i default).u<0∨ ∃k:Nat,k<l.length∧((rwA x l d s).getD i default).u=k∧(rwU x l d s k).map rwT=rdG x t (frN l k) (toN l k-frN l k)):=by
 unfold soK;rw[mC hi];have hg:=((pD h).1 _ (zh (a:=default) hi)).u;have hr:=yk l ((rwA x l d s).getD i default).p.c
 by_cases g:((rwA x l d s).getD i default).u<0
 ·rw[ipo g];exact⟨λ_=> .inl g,λ_=>VX ht⟩
 ·rw[ine g];obtain⟨k,hk⟩: ∃k:Nat,((rwA x l d s).getD i default).u=k:=⟨(((rwA x l d s).getD i default).u).toNat,om⟩
  have hkl:k<l.length:=by omega
  rw[hk,itn,Es h.us hkl ht,BW h hkl];constructor
  ·intro e;exact .inr ⟨k,hkl,rfl,e⟩
  ·rintro (e|⟨k',h1,h2,h3⟩)
   ·omega
   ·have:k'=k:=by omega
    subst this;exact h3
theorem DY{x:Co}{l:List Un}{d:List Dc}{s:Nat}(h:wt x l d s){i:Nat}(hi:i<(rwA x l d s).length):
  (((rwA x l d s).getD i default).d<0->(s:Int)∈soK x l (bsW (rwA x l d s)) i)∧
  (0<=((rwA x l d s).getD i default).d->((rwA x l d s).getD i default).d.toNat<d.length∧jN x l (d.getD ((rwA x l d s).getD i default).d.toNat default)=((rwA x l d s).getD i default).u∧
   (d.getD ((rwA x l d s).getD i default).d.toNat default).kind≠3∧((d.getD ((rwA x l d s).getD i default).d.toNat default).kind=1->zM x (d.getD ((rwA x l d s).getD i default).d.toNat default).sig∈soK x l (bsW (rwA x l d s)) i)):=by
 have hm:=zh (a:=default) hi;have hd:=pC hm;have g0:=(pD h).1 _ hm;have hgd:=g0.d;have hgn:=g0.n;have hsm:=λt ht=>B7 h hi (t:=t) ht
 have hcases:=nz hm;obtain⟨r,hr⟩:=wD ((rwA x l d s).getD i default)
 rw[<-hr]at hd hgd hgn hcases ⊢;simp only[<-hr]at hsm;rcases hcases with⟨u1,u2⟩|⟨k,hk,hrk⟩
 ·refine⟨λ_=>(hsm s h.sl).2 (.inl om),λe=>by omega⟩
 ·obtain⟨q1,q2⟩:=JX hrk;refine⟨λe=>(hsm s h.sl).2 (.inr ⟨k,hk,q1,?_⟩),λe=> ?_⟩
  ·rw[gu,ipo om]
  ·have hl: ¬wz x l d k d.length<0:=by omega
   obtain⟨c1,c2,c3⟩:=ZE h hl;rw[<-q2]at c1 c2 c3;have hx:(rwU x l d s k).map rwT=if (d.getD r.d.toNat default).kind=1 then rdG x (zM x (d.getD r.d.toNat default).sig).toNat (frN l k) (toN l k-frN l k)
    else if (d.getD r.d.toNat default).kind=2 then (gW (d.getD r.d.toNat default).txt).map Tk.text else []:=by
    rw[gu,ine hl,<-q2]
   refine⟨c1,by rw[c3,q1],λe3=> ?_,λe1=> ?_⟩
   ·rw[ine om,ine om]at hx
    have:=List.mem_map_of_mem (f:=rwT) hrk
    rw[hx]at this;cases this
   ·obtain⟨_,_,_,p4,_⟩:=w9 c2;obtain⟨t1,t2,_⟩:=lW p4;rw[ipo e1]at hx;obtain⟨t,ht⟩: ∃t:Nat,zM x (d.getD r.d.toNat default).sig=t:=⟨(zM x (d.getD r.d.toNat default).sig).toNat,om⟩
    rw[ht]at t2 hx ⊢;rw[itn]at t2 hx;exact (hsm t t2).2 (.inr ⟨k,hk,q1,hx⟩)
theorem nh(x:Co)(s f d:Nat): ∀e,rdG x s f (d+e)=rdG x s f d++rdG x s (f+d) e:=by
 intro e
 induction e with
 |zero=>rw[Nat.add_zero];show _=_++ [];rw[lan]
 |succ e ih=>
  show rdG x s f (d+e)++(clT x (f+(d+e)) s).toList=rdG x s f d++(rdG x s (f+d) e++(clT x (f+d+e) s).toList);rw[ih,List.append_assoc,Nat.add_assoc]
theorem Jx{x:Co}{s t f:Nat}: ∀d,(∀i,i<d->clT x (f+i) s=clT x (f+i) t)->rdG x s f d=rdG x t f d:=by
 intro d
 induction d with
 |zero=>intro _;rfl
 |succ d ih=>
  intro h;unfold rdG;rw[ih (λi hi=>h i om),h d (Nat.lt_succ_self d)]
theorem FH{x:Co}(h:CoOk x){s:Nat}(hs:s<x.sig.length):rdG x s 0 x.col.length=(x.tok.getD s []).map Tk.text:=by
 rw[<-xT,<-Gf h hs,List.map_map];rfl
theorem pE(x:Co)(s f t:Nat):(rwC x s f t).map rwT=rdG x s f (t-f):=by unfold rwC;rw[bQ,xT]
def Cf(x:Co)(l:List Un)(d:List Dc)(s a:Nat):Prop:= ∀k,k<l.length->(rwU x l d s k).map rwT=rdG x a (frN l k) (toN l k-frN l k)
theorem A8{x:Co}{l:List Un}(h:wJ x l=true)(hc:cvA x l=true)(ho:CoOk x){s a:Nat}(hs:s<x.sig.length)(ha:a<x.sig.length){k t:Nat}(hk:k<=l.length)(ht:t<=x.col.length)(hf:k<l.length->t<=frN l k):
  rdG x s (zx l k) (t-zx l k)=rdG x a (zx l k) (t-zx l k):=by
 refine Jx _ λi hi=> ?_
 have hn:=Zh h hk (c:=zx l k+i) (Nat.le_add_right _ _) (λhk=>by have:=hf hk;omega);obtain⟨_,e1,_⟩:=iI hc ho hs (c:=zx l k+i) om om;obtain⟨_,e2,_⟩:=iI hc ho ha (c:=zx l k+i) om om;rw[e1,e2]
theorem oS{x:Co}{l:List Un}{d:List Dc}{s a:Nat}(h:wJ x l=true)(hc:cvA x l=true)(ho:CoOk x)(hs:s<x.sig.length)(ha:a<x.sig.length)(hF:Cf x l d s a):(rwA x l d s).map rwT=(x.tok.getD a []).map Tk.text:=by
 have key: ∀k,k<=l.length->(rwL x l d s k).map rwT=rdG x a 0 (zx l k):=by
  intro k
  induction k with
  |zero=>intro _;rfl
  |succ k ih=>
   intro hk;have hp:=aW h (show k<l.length by omega);obtain⟨_,_,a3,a4,_⟩:=jO h (show k<l.length by omega);show (rwL x l d s k++(rwC x s (zx l k) (frN l k)++rwU x l d s k)).map rwT=_;rw[List.map_append,List.map_append,ih om,pE,hF k om,A8 h hc ho hs ha (show k<=l.length by omega) om (λ_=>nlr _),xR];have g1:=nh x a 0 (zx l k) (frN l k-zx l k);have g2:=nh x a 0 (frN l k) (toN l k-frN l k);rw[Nat.zero_add]at g1 g2;rw[show zx l k+(frN l k-zx l k)=frN l k by omega]at g1;rw[show frN l k+(toN l k-frN l k)=toN l k by omega]at g2;rw[<-List.append_assoc,<-g1,<-g2]
 have hp:=xa h (nlr l.length);unfold rwA;rw[List.map_append,key _ (nlr _),pE,A8 h hc ho hs ha (nlr _) (nlr _) (λe=>absurd e (Nat.lt_irrefl _)),<-FH ho ha];have g1:=nh x a 0 (zx l l.length) (x.col.length-zx l l.length);rw[Nat.zero_add,show zx l l.length+(x.col.length-zx l l.length)=x.col.length by omega]at g1;rw[g1]
theorem Ef{x:Co}{l:List Un}{d:List Dc}{s a:Nat}(h:wJ x l=true)(hc:cvA x l=true)(ho:CoOk x)(hs:s<x.sig.length)(ha:a<x.sig.length)(hF:Cf x l d s a):(rwA x l d s).length<=1024:=by
 have e:=congrArg List.length (oS h hc ho hs ha hF);rw[List.length_map,List.length_map]at e;rw[e];exact ho.tl a (by rw[ho.tn];exact ha)
theorem Oh{x:Co}{l:List Un}{d:List Dc}{s a:Nat}(h:wt x l d s)(ha:a<x.sig.length)(hF:Cf x l d s a){i:Nat}(hi:i<(rwA x l d s).length):(a:Int)∈soK x l (bsW (rwA x l d s)) i:=by
 refine (B7 h hi ha).2 ?_;rcases nz (zh (a:=default) hi)with⟨u1,_⟩|⟨k,hk,hr⟩
 ·exact .inl om
 ·exact .inr ⟨k,hk,(JX hr).1,hF k hk⟩
theorem Hu{x:Co}{l:List Un}{d:List Dc}{s a:Nat}(h:wt x l d s)(ha:a<x.sig.length){k:Nat}(hk:k<l.length):agB l (bsW (rwA x l d s)) a k=decide (rdG x a (frN l k) (toN l k-frN l k)=(rwU x l d s k).map rwT):=by
 obtain⟨j,h1,h2,h3,_⟩:=Px h.us hk ha;have hR:dF (l.getD k default).rds (a:Int)=j:=by unfold dF;rw[h1,ine om]
 unfold agB;rw[hR,itn,h3,BW h hk]
theorem qbZ{p:Nat->Bool}: ∀ {n:Nat},(∀i,i<n->p i=true)->cP p n=n:=by
 intro n
 induction n with
 |zero=>intro _;rfl
 |succ n ih=>
  intro h;unfold cP;rw[ih λi hi=>h i om,h n (Nat.lt_succ_self n)];rfl
theorem Og{x:Co}{l:List Un}{d:List Dc}{s a:Nat}(h:wt x l d s)(ha:a<x.sig.length)(hF:Cf x l d s a):cP (agB l (bsW (rwA x l d s)) a) l.length=l.length:=
 qbZ λk hk=>by rw[Hu h ha hk,hF k hk];exact dqt rfl
theorem Eg{x:Co}{l:List Un}{s:Nat}:Cf x l [] s s:=λk _=>by rw[gu,ipo (by show (-1:Int)<0;omega)]
theorem F8{x:Co}(h:coE x=0){s:Nat}(hs:s<x.sig.length):x.sig.getD s []≠ []∧ ∀j,j<s->x.sig.getD j []≠x.sig.getD s []:=by
 have h1:srE x=0:=by
  unfold coE at h;split at h
  ·rename_i e;exact absurd h e
  ·rename_i e;exact Classical.not_not.1 e
 have h2:xM (jT x.sig) 0 x.sig.length=0:=by
  unfold srE at h1;split at h1
  ·cases h1
  split at h1
  ·cases h1
  split at h1
  ·cases h1
  split at h1
  ·rename_i e;exact absurd h1 e
  ·rename_i e;exact Classical.not_not.1 e
 have h3:=jE.1 h2 s hs;unfold jT at h3;split at h3
 ·cases h3
 rename_i g;split at h3
 ·cases h3
 rename_i g2;refine⟨λe=>g (by rw[e];decide),λj hj e=> ?_⟩;have g2:jx (λj=>decide (x.sig.getD s []=x.sig.getD j [])) s=false:=by simpa using g2
 exact of_decide_eq_false (qr.1 g2 j hj) e.symm
theorem Lo(col:List (List Int))(s k:Nat): ∀d,cnC col s k<=cnC col s (k+d):=by
 intro d
 induction d with
 |zero=>exact nlr _
 |succ d ih=>exact Nat.le_trans ih (Nat.le_add_right _ _)
theorem Lq{x:Co}(ho:CoOk x){s c:Nat}(hs:s<x.sig.length)(hc:c<x.col.length)(hp:pcB x s c=true):wp x s ((x.col.getD c []).getD s 0)=c:=by
 unfold pcB at hp;have hp:=of_decide_eq_true hp;refine wv (p:=λk=>decide ((x.col.getD k []).getD s 0=(x.col.getD c []).getD s 0)) hc (λk hk=>dqf λe=> ?_) (dqt rfl);have h1:=ho.ce k om s hs;have h2:=ho.ce c hc s hs;have h3:=Lo x.col s (k+1) (c-(k+1));rw[show k+1+(c-(k+1))=c by omega]at h3;have h4:cnC x.col s (k+1)=cnC x.col s k+if (x.col.getD k []).getD s 0= -1 then 0 else 1:=rfl
 rw[ine om]at h4;omega
theorem Lt{x:Co}{l:List Un}(hx:coE x=0)(h:wJ x l=true){k s c:Nat}(hk:k<l.length)(hs:s<x.sig.length)(h1:frN l k<=c)(h2:c<toN l k)(hp:pcB x s c=true){o:Dc}(hkd:o.kind=1∨o.kind=3)(ht:o.txt= [])(hg:o.sig=x.sig.getD s [])(hn:o.tok=(x.col.getD c []).getD s 0):
  yb x l o=0∧jN x l o=k∧zM x o.sig=s:=by
 obtain⟨_,_,_,a4,_⟩:=jO h hk;have ho:=kh hx;have e1:zM x o.sig=s:=by rw[hg];exact Y5 hs (F8 hx hs).2
 have e2:=Lq ho hs (show c<x.col.length by omega) hp;obtain⟨_,p2⟩:=Ja ho hs (show c<x.col.length by omega) hp;unfold pcB at hp;have hp:=of_decide_eq_true hp;have e3:jN x l o=k:=by
  unfold jN;rw[e1,itn,hn,e2];exact Xl h hk h1 h2
 refine⟨?_,e3,e1⟩;unfold yb;rw[ine om,ine (λe=>e.1 ht),ine,ine om]
 ·unfold cjE;rw[ine om]
 ·unfold tkB;rw[e1,itn,hn,dqt (show (0:Int)<=(s:Int) by omega),dqt hp,dqt (show (x.col.getD c []).getD s 0<((x.tok.getD s []).length:Int) by omega)];simp
structure FoI (x:Co) (a:Nat) (V:Nat->Nat->Prop) (o:Fo):Prop where
 k1:o.k=1-> ∃c,V c a∧pcB x a c=true∧o.g=x.sig.getD a []∧o.t=(x.col.getD c []).getD a 0
 k3:o.k≠1->o.k=3∧(∀c,V c a->pcB x a c=false)∧(o.g= []-> ∀c s,V c s->pcB x s c=false)∧(o.g≠ []-> ∃c s,V c s∧s<x.sig.length∧pcB x s c=true∧o.g=x.sig.getD s []∧o.t=(x.col.getD c []).getD s 0)
theorem qcT{x:Co}{a c s:Nat}{V V':Nat->Nat->Prop}{o:Fo}(hx:coE x=0)(ha:a<x.sig.length)(hs:s<x.sig.length)(hV: ∀c' s',V' c' s'↔V c' s'∨(c'=c∧s'=s))(I:FoI x a V o):FoI x a V' (foS x a c o s):=by
 have na:=(F8 hx ha).1;have ns:=(F8 hx hs).1;have up: ∀c' s',V c' s'->V' c' s':=λc' s' h=>(hV c' s').2 (.inl h)
 unfold foS;split
 ·rename_i g;have hp:pcB x s c=false:=by unfold pcB;exact dqf om
  refine⟨λe=> ?_,λe=> ?_⟩
  ·obtain⟨c',h1,h2⟩:=I.k1 e;exact⟨c',up _ _ h1,h2⟩
  ·obtain⟨h1,h2,h3,h4⟩:=I.k3 e;refine⟨h1,λc' hc=> ?_,λe c' s' hc=> ?_,λe=> ?_⟩
   ·rcases (hV _ _).1 hc with hc|⟨rfl,rfl⟩
    ·exact h2 c' hc
    ·exact hp
   ·rcases (hV _ _).1 hc with hc|⟨rfl,rfl⟩
    ·exact h3 e c' s' hc
    ·exact hp
   ·obtain⟨c',s',q1,q2⟩:=h4 e;exact⟨c',s',up _ _ q1,q2⟩
 rename_i g;have hp:pcB x s c=true:=by unfold pcB;exact dqt om
 have me:V' c s:=(hV c s).2 (.inr ⟨rfl,rfl⟩);split
 ·rename_i e;subst e;exact⟨λ_=>⟨c,me,hp,rfl,rfl⟩,λe=>absurd rfl e⟩
 rename_i g2;split
 ·rename_i g3;refine⟨λe=> ?_,λe=> ?_⟩
  ·obtain⟨c',_,_,h3,_⟩:=I.k1 e;exact absurd (h3.symm.trans g3) na
  ·obtain⟨h1,h2,h3,h4⟩:=I.k3 e;refine⟨h1,λc' hc=> ?_,λe=>absurd e ns,λ_=>⟨c,s,me,hs,hp,rfl,rfl⟩⟩;rcases (hV _ _).1 hc with hc|⟨_,e⟩
   ·exact h2 c' hc
   ·exact absurd e.symm g2
 ·rename_i g3;refine⟨λe=> ?_,λe=> ?_⟩
  ·obtain⟨c',h1,h2⟩:=I.k1 e;exact⟨c',up _ _ h1,h2⟩
  ·obtain⟨h1,h2,h3,h4⟩:=I.k3 e;refine⟨h1,λc' hc=> ?_,λe=>absurd e g3,λe=> ?_⟩
   ·rcases (hV _ _).1 hc with hc|⟨_,e⟩
    ·exact h2 c' hc
    ·exact absurd e.symm g2
   ·obtain⟨c',s',q1,q2⟩:=h4 e;exact⟨c',s',up _ _ q1,q2⟩
theorem FoI.iff{x:Co}{a:Nat}{V V':Nat->Nat->Prop}{o:Fo}(I:FoI x a V o)(hV: ∀c s,s<x.sig.length->(V' c s↔V c s))(ha:a<x.sig.length)(hW: ∀c s,V' c s->s<x.sig.length):FoI x a V' o:=by
 refine⟨λe=> ?_,λe=> ?_⟩
 ·obtain⟨c,h1,h2⟩:=I.k1 e;exact⟨c,(hV c a ha).2 h1,h2⟩
 ·obtain⟨h1,h2,h3,h4⟩:=I.k3 e;refine⟨h1,λc hc=>h2 c ((hV c a ha).1 hc),λe c s hc=>h3 e c s ((hV c s (hW c s hc)).1 hc),λe=> ?_⟩;obtain⟨c,s,q1,q2,q3⟩:=h4 e;exact⟨c,s,(hV c s q2).2 q1,q2,q3⟩
theorem qcS{x:Co}{a c:Nat}{V:Nat->Nat->Prop}{o:Fo}(hx:coE x=0)(ha:a<x.sig.length)(I:FoI x a V o): ∀m,m<=x.sig.length->FoI x a (λc' s'=>V c' s'∨(c'=c∧s'<m)) (foR x a c o m):=by
 intro m
 induction m with
 |zero=>
  intro _;refine⟨λe=> ?_,λe=> ?_⟩
  ·obtain⟨c',h1,h2⟩:=I.k1 e;exact⟨c',.inl h1,h2⟩
  ·obtain⟨h1,h2,h3,h4⟩:=I.k3 e;refine⟨h1,λc' hc=>hc.elim (h2 c') (λq=>absurd q.2 (nnz _)),λe c' s' hc=>hc.elim (h3 e c' s') (λq=>absurd q.2 (nnz _)),λe=> ?_⟩;obtain⟨c',s',q1,q2⟩:=h4 e;exact⟨c',s',.inl q1,q2⟩
 |succ m ih=>
  intro hm;refine qcT hx ha (show m<x.sig.length by omega) (λc' s'=> ?_) (ih om);constructor
  ·rintro (h|⟨h1,h2⟩)
   ·exact .inl (.inl h)
   ·by_cases e:s'=m
    ·exact .inr ⟨h1,e⟩
    ·exact .inl (.inr ⟨h1,om⟩)
  ·rintro ((h|⟨h1,h2⟩)|⟨h1,h2⟩)
   ·exact .inl h
   ·exact .inr ⟨h1,om⟩
   ·exact .inr ⟨h1,om⟩
theorem qcR{x:Co}{a f:Nat}(hx:coE x=0)(ha:a<x.sig.length): ∀d,FoI x a (λc s=>f<=c∧c<f+d∧s<x.sig.length) (foC x a f d):=by
 intro d
 induction d with
 |zero=>
  refine⟨λe=> ?_,λ_=>⟨rfl,λc hc=>by omega,λ_ c s hc=>by omega,λe=>absurd rfl e⟩⟩;have e:(3:Int)=1:=e;omega
 |succ d ih=>
  refine (qcS (c:=f+d) hx ha ih x.sig.length (nlr _)).iff (λc s hs=> ?_) ha (λc s h=>h.2.2);constructor
  ·rintro⟨h1,h2,h3⟩
   by_cases e:c=f+d
   ·exact .inr ⟨e,h3⟩
   ·exact .inl ⟨h1,om,h3⟩
  ·rintro (⟨h1,h2,h3⟩|⟨h1,h2⟩)
   ·exact⟨h1,om,h3⟩
   ·exact⟨om,om,h2⟩
theorem Y4{x:Co}{s f:Nat}: ∀d,(∀c,f<=c->c<f+d->pcB x s c=false)->spk x s f d= []:=by
 intro d
 induction d with
 |zero=>intro _;rfl
 |succ d ih=>
  intro h;unfold spk;rw[ih (λc h1 h2=>h c h1 om),h (f+d) om om];rfl
theorem Zk{x:Co}{l:List Un}(hx:coE x=0)(h:wJ x l=true){k a:Nat}(hk:k<l.length)(ha:a<x.sig.length):
  yb x l (foU x a (l.getD k default))=0∧jN x l (foU x a (l.getD k default))=k∧(mn x l k (foU x a (l.getD k default))).map (λp=>p.t.text)=rdG x a (frN l k) (toN l k-frN l k):=by
 obtain⟨_,_,a3,a4,_⟩:=jO h hk;have ho:=kh hx;have I:=qcR (f:=frN l k) hx ha (toN l k-frN l k);have e:foU x a (l.getD k default)=foD (foC x a (frN l k) (toN l k-frN l k)):=rfl;rw[e];obtain⟨o,hoo⟩:=wD (foC x a (frN l k) (toN l k-frN l k))
 rw[<-hoo]at I ⊢
 by_cases g:o.k=1
 ·obtain⟨c,⟨c1,c2,_⟩,c3,c4,c5⟩:=I.k1 g;obtain⟨q1,q2,q3⟩:=Lt hx h hk ha c1 om c3 (o:=foD o) (.inl g) rfl c4 c5;refine⟨q1,q2,?_⟩;unfold mn;rw[ipo (show (foD o).kind=1 from g),q3,itn,xT]
 ·obtain⟨h1,h2,h3,h4⟩:=I.k3 g;have hg:o.g≠ []:=λe=>by
   obtain⟨s,hs,hn⟩:=ho.cs (frN l k) om;have h5:=h3 e (frN l k) s ⟨nlr _,om,hs⟩;unfold pcB at h5;have h5:=of_decide_eq_false h5;rcases ho.ce (frN l k) om s hs with q|⟨q,_⟩
   ·exact hn q
   ·omega
  obtain⟨c,s,⟨c1,c2,_⟩,hs,c3,c4,c5⟩:=h4 hg;obtain⟨q1,q2,q3⟩:=Lt hx h hk hs c1 om c3 (o:=foD o) (.inr h1) rfl c4 c5;refine⟨q1,q2,?_⟩;unfold mn;rw[ine (show¬(foD o).kind=1 from g),ine (show¬(foD o).kind=2 by show¬o.k=2;omega),<-xT,Y4 _ (λc h5 h6=>h2 c ⟨h5,h6,ha⟩)]
theorem Zi(x:Co){l:List Un}(a:Nat){k:Nat}(hk:k<l.length):(foL x l a).getD k default=foU x a (l.getD k default):=by
 unfold foL;rw[gdqA,List.getElem?_map,zG hk,gdqA,zG hk];rfl
theorem OO{x:Co}{l:List Un}(hx:coE x=0)(h:wJ x l=true){k a:Nat}(ha:a<x.sig.length): ∀n,n<=l.length->wz x l (foL x l a) k n=if k<n then (k:Int) else-1:=by
 intro n
 induction n with
 |zero=>intro _;rfl
 |succ n ih=>
  intro hn;unfold wz;rw[Zi x a (show n<l.length by omega),(Zk hx h (show n<l.length by omega) ha).2.1,ih om]
  by_cases e:n=k
  ·subst e;rw[ipo rfl,ipo om]
  ·rw[ine om]
   by_cases q:k<n
   ·rw[ipo q,ipo om]
   ·rw[ine q,ine om]
theorem BB{x:Co}{l:List Un}(hx:coE x=0)(h:wJ x l=true){a s:Nat}(ha:a<x.sig.length):Cf x l (foL x l a) s a:=by
 intro k hk;have hl:(foL x l a).length=l.length:=by unfold foL;rw[List.length_map]
 have e:=OO hx h (k:=k) ha l.length (nlr _);rw[ipo hk]at e;unfold rwU;rw[hl,e,ine om,itn,Zi x a hk,bQ];exact (Zk hx h hk ha).2.2
theorem qcU{x:Co}{l:List Un}(hv:vaE x l=0)(hl:l.length<=256){a s:Nat}(ha:a<x.sig.length)(hs:s<x.sig.length):wt x l (foL x l a) s:=by
 obtain⟨h1,h2,h3⟩:=dk hv;have hL:(foL x l a).length=l.length:=by unfold foL;rw[List.length_map]
 refine⟨h1,h2,h3,hs,om,λj hj=> ?_,Ef h2 h3 (kh h1) hs ha (BB h1 h2 ha)⟩;rw[Zi x a om];exact (Zk h1 h2 om ha).1
theorem wt.esE{x:Co}{l:List Un}{d:List Dc}{s:Nat}(h:wt x l d s):esE x l d s=0:=by
 have h1:vaE x l=0:=by
  unfold vaE;rw[ine (λhc=>hc h.ca),ine];unfold rgB;rw[h.us,h.cv];simp
 have h2:az x l d=0:=by
  unfold az;rw[ine (by have:=h.dl;omega)];exact jE.2 h.pl
 have:=h.sl
 have:=h.ln
 unfold RC.esE;rw[h1,h2,ine (by simp),ine om,ine (by simp),ine (by rw[itn];omega)]
theorem oK{x:Co}{l:List Un}{d:List Dc}{s:Nat}(h:wt x l d s){i:Nat}(hi:i<(rwA x l d s).length){w:Wd}(hw:w=(bsW (rwA x l d s)).getD i default):
  (0<=w.col∧w.col<x.col.length)∧(w.text≠ []∧w.text.length<=64)∧(-1<=w.dec∧w.dec<d.length)∧fnU l w.col=w.unit∧(w.unit<0->w.dec= -1)∧(i≠0->((bsW (rwA x l d s)).getD (i-1) default).col<=w.col∧((bsW (rwA x l d s)).getD (i-1) default).text.length<=64):=by
 subst hw;obtain⟨g1,g2⟩:=pD h;have g:=g1 _ (zh (a:=default) hi);rw[mB hi,AZ hi,A1 hi,mC hi];refine⟨g.c,g.tx,g.d,g.u,λe=>(g.n e).2,λh0=> ?_⟩;have hj:i-1<(rwA x l d s).length:=by omega
 rw[AZ hj,mB hj];refine⟨?_,(g1 _ (zh (a:=default) hj)).tx.2⟩
 have:=List.pairwise_iff_getElem.1 g2 (i-1) i hj hi om
 rw[gdqA,zG hj,gdqA,zG hi];exact this
end RC
end
section
open Go Go.Proofs AF
end
section
open Go Go.Proofs AF HY LN
namespace RC
theorem nX{x:Co}(hc:x.col.length<=1000000)(hs:x.sig.length<=1000000):bo (wI x):=by
 have hl:(wI x).length<=x.col.length:=by
  have h1:=gh (s:=0) (xI x) (d:= []) (by simp) (wI x).length (nlr _);have h2:=xa (xI x) (nlr (wI x).length);omega
 have key: ∀i,AO ((wI x).getD i default).rds:=λi=>by
  by_cases hi:i<(rnL x).length
  ·rw[dj hi];obtain⟨h1,h2,_⟩:=JH hi;exact JB x (rnL x)[i].1 ((rnL x)[i].2-(rnL x)[i].1) om x.sig.length om
  ·rw[gdqA,List.getElem?_eq_none (by rw[bV];omega)];have e0:(none.getD default:Un).rds= []:=rfl;exact⟨nzl _,λj=>by rw[e0,List.getD_nil];decide,λj=>by rw[e0,List.getD_nil];decide⟩
 exact⟨om,λi=>(key i).1,λi j=>(key i).2 j,λi j=>(key i).3 j⟩
end RC
end
section
open Go Go.Proofs AF
def oV:List Nat:= []
def He:C:=
 (v6 [O1 3 (.box 0 26) 0,ON 6 (.nilo 1 3 64) [],ON 7 (.nilo 2 7 36) [],MC 8 (.bool false)] ((v6 [O1 13 (.load (some 4)) 3,O1 14 (.call 28 true) 13,MV 15 14,vY 16 15 1,vW 17 15
 (.call 23 true) 16,PT 18 15 17,MV 19 18,vW 20 19 (.load (some 4)) 3,vW 21 19 (.call 67 true) 20,vZ 22 19 (.bin .neq) 21 (i6 0),PT 23 19 22,MV 24 23,vW 25 24 (.load (some 4))
 3,vW 26 24 (.call 29 true) 25,vZ 27 24 (.bin .neq) 26 (i6 0),PT 28 24 27] (v7 28 (wa [ON 6 (.nilo 1 3 64) [],ON 7 (.nilo 2 7 36) [],MC 8 (.bool false)]))).seq (v6 [O1 30 (.load
 (some 4)) 3,O1 31 (.call 31 true) 30,MV 29 31,O1 32 (.ext 0) 29,O1 33 (.ext 1) 29,MV 9 32,MV 10 33] (v6 [O1 35 (.load (some 4)) 3,MV 36 9,MV 37 1,MV 38 2,ON 39 (.call 25 true)
 [.t 35,.t 36,.t 37,.t 38],MV 34 39,O1 40 (.ext 0) 34,O1 41 (.ext 1) 34,MV 11 40,MV 12 41] (wa [MV 42 9,MV 43 11,MV 44 10,vV 45 .eql 44 0,MV 46 45,MG 47 46 true 12,PC 48 46 true
 (.bin .eql) 47 (i6 0),PF 49 46 48,MV 6 42,MV 7 43,MV 8 49])))))
theorem Zb:qN Tryz.prog 15 50 3 [RV.tmp 6,RV.tmp 7,RV.tmp 8] He:=fi Tryz.f15 [3,6,7] oV []
def c3s:C:=
 (v6 [O1 3 (.box 0 26) 0,MC 6 (.bool false)] (v6 [MV 23 2,O1 24 (.conv .i64) 23,vT 25 1 3,LD 26 25,O1 27 .len 26,ON 28 (.mm true) [.c (i6 1),.t 27],BI 29 .rem 24 28,MV 7 29] (v6
 [O1 31 (.load (some 4)) 3,MV 32 1,MV 33 7,ON 34 (.call 15 true) [.t 31,.t 32,.t 33],MV 30 34,O1 35 (.ext 0) 30,O1 36 (.ext 1) 30,O1 37 (.ext 2) 30,MV 8 35,MV 9 36,MV 10 37]
 ((v6 [MV 38 10,O1 39 (.un UnOp.not) 38] (v7 39 (wa [ON 40 (.call 16 true) [],MV 6 40]))).seq ((v6 [O1 41 (.load (some 4)) 3,MV 42 8,MV 43 9,ON 44 (.call 17 true) [.t 41,.t
 42,.t 43],vV 45 .neq 44 0] (v7 45 (wa [MC 6 (.bool false)]))).seq ((v6 [MV 46 9,O1 47 .len 46,vU 48 0] (C.block 0 (v6 [BI 49 .lss 48 47] ((v8 49 0).seq ((C.block 1 (v6 [MV 50
 48,O2 51 (.idxA 7) 46 48,O1 52 (.load (some 7)) 51,⟨some 12,none,.alloc 1 36 [.str [],i6 0,i6 0,i6 0,.bool false,.bool false,.str []],[]⟩,MV 11 50,ST 7 12 52] (v6 [MV 54 9,MV
 55 11,O2 56 (.call 18 true) 54 55,MV 53 56,O1 57 (.ext 0) 53,O1 58 (.ext 1) 53,MV 13 57,MV 14 58] (v6 [O1 60 (.load (some 4)) 3,MV 61 8,MV 62 9,MV 63 11,ON 64 (.call 19 true)
 [.t 60,.t 61,.t 62,.t 63],MV 59 64,O1 65 (.ext 0) 59,O1 66 (.ext 1) 59,MV 15 65,MV 16 66] ((v6 [MV 67 14,vV 68 .neq 67 0,MV 69 68,vY 70 69 16,vZ 71 69 (.bin .neq) 70 (i6 0),PT
 72 69 71,MV 73 72,vY 74 73 13,vZ 75 73 (.bin .lss) 74 (i6 (-1)),PT 76 73 75,MV 77 76,vY 78 77 13,vY 79 77 1,vW 80 77 .len 79,vX 81 77 (.bin .geq) 78 80,PT 82 77 81] (v7 82 (wa
 [MC 6 (.bool false)]))).seq ((v6 [MV 83 1,O1 84 .len 83,vU 85 0] (C.block 2 (v6 [BI 86 .lss 85 84] ((v8 86 2).seq ((C.block 3 (v6 [MV 87 85,O2 88 (.idxA 4) 83 85,O1 89 (.load
 (some 4)) 88,⟨some 18,none,.alloc 2 43 [i6 0,.str [],i6 0,.str []],[]⟩,MV 17 87,ST 4 18 89] (v6 [O1 91 (.load (some 4)) 3,MV 92 8,O1 93 (.load (some 4)) 18,ON 94 (.call 20
 true) [.t 91,.t 92,.t 93],MV 90 94,O1 95 (.ext 0) 90,O1 96 (.ext 1) 90,MV 19 95,MV 20 96] (v6 [MV 97 20,vV 98 .neq 97 0,MV 99 98,vY 100 99 19,wh 101 99 2 12,wi 102 99 101,vX
 103 99 (.bin .eql) 100 102,vY 104 99 103,MG 105 104 true 17,MG 106 104 true 13,P2 107 104 true (.bin .gtr) 105 106,QF 108 99 false 104 107,PT 109 99 108] (v7 109 (wa [MC 6
 (.bool false)])))))).seq (wc [vV 110 .add 85 1,MV 85 110])))).loop)).seq ((v6 [MV 111 13,vV 112 .lss 111 0] (v7 112 ((v6 [MV 113 15,MV 114 7,O2 115 (.call 21 true) 113 114,O1
 116 (.un UnOp.not) 115] (v7 116 (wa [MC 6 (.bool false)]))).seq (C.exit 1)))).seq (v6 [O1 118 (.load (some 4)) 3,MV 119 8,MV 120 1,MV 121 13,O2 122 (.idxA 4) 120 121,O1 123
 (.load (some 4)) 122,ON 124 (.call 20 true) [.t 118,.t 119,.t 123],MV 117 124,O1 125 (.ext 0) 117,O1 126 (.ext 1) 117,MV 21 125,MV 22 126] (v6 [MV 127 22,vV 128 .neq 127 0,MV
 129 128,vY 130 129 21,wh 131 129 2 12,wi 132 129 131,vX 133 129 (.bin .neq) 130 132,PT 134 129 133,MV 135 134,vY 136 135 1,vY 137 135 13,vX 138 135 (.idxA 4) 136 137,wh 139 135
 0 138,wi 140 135 139,vZ 141 135 (.bin .eql) 140 (i6 3),PT 142 135 141,MV 143 142,vY 144 143 1,vY 145 143 13,vX 146 143 (.idxA 4) 144 145,wh 147 143 0 146,wi 148 143 147,vZ 149
 143 (.bin .eql) 148 (i6 1),vY 150 143 149,MG 151 150 true 15,P1 152 150 true (.fldA 1) 3,P1 153 150 true (.load none) 152,MG 154 150 true 1,MG 155 150 true 13,P2 156 150 true
 (.idxA 4) 154 155,P1 157 150 true (.fldA 1) 156,P1 158 150 true (.load none) 157,P2 159 150 true (.call 22 true) 153 158,P2 160 150 true (.call 21 true) 151 159,P1 161 150 true
 (.un UnOp.not) 160,QF 162 143 false 150 161,PT 163 143 162] (v7 163 (wa [MC 6 (.bool false)]))))))))))).seq (wc [vV 164 .add 48 1,MV 48 164])))).loop)).seq (wa [ON 165 (.call
 16 true) [],MV 6 165])))))))
theorem qeB:qN Tryz.prog 3 166 3 [RV.tmp 6] c3s:=fi Tryz.f3 [3,12,18] oV []
end
section
open Go Go.Proofs AF
def oW:List Nat:= [25]
def qee:C:=
 (v6 [MC 0 (.bool false)] (v6 [MC 1 (.fn (Fn.func 68) [] [])] (v6 [⟨some 11,none,.bslc 0 1 2 9 [.str []] [(0,1),(1,1)],[.c (.str [65]),.c (.str [66])]⟩,MV 12 1,OC 13 .callv 12
 (.str [100,101,117,115]),MV 14 1,OC 15 .callv 14 (.str [101,115,116]),⟨some 16,none,.bslc 1 6 2 92 [.str [],.str [],.str [],i6 0,i6 0,.str []] [(0,6),(6,6)],[.t 13,.t 15]⟩,MV
 17 1,OC 18 .callv 17 (.str [100,101,117,115]),MV 19 1,OC 20 .callv 19 (.str [101,114,97,116]),⟨some 21,none,.bslc 2 6 2 92 [.str [],.str [],.str [],i6 0,i6 0,.str []]
 [(0,6),(6,6)],[.t 18,.t 20]⟩,⟨some 22,none,.bslc 3 1 2 93 [.nl] [(0,1),(1,1)],[.t 16,.t 21]⟩,⟨some 23,none,.bslc 4 1 2 3 [i6 0] [(0,1),(1,1)],[.c (i6 0),.c (i6 0)]⟩,⟨some
 24,none,.bslc 5 1 2 3 [i6 0] [(0,1),(1,1)],[.c (i6 1),.c (i6 1)]⟩,⟨some 25,none,.bslc 6 1 2 39 [.nl] [(0,1),(1,1)],[.t 23,.t 24]⟩,⟨some 26,none,.build [.str [],.nl,.nl,.nl]
 [(0,1),(1,1),(2,1),(3,1)],[.c (.str [97]),.t 11,.t 22,.t 25]⟩,⟨some 2,none,.alloc 7 26 [.str [],.nl,.nl,.nl],[]⟩,ST 4 2 26] ((C.wk.seq (wc [O1 28 (.load (some 4)) 2,O1 29
 (.call 31 true) 28,MV 27 29,O1 30 (.ext 0) 27,O1 31 (.ext 1) 27,MV 3 30,MV 4 31])).seq (v6 [O1 33 (.load (some 4)) 2,MV 34 3,⟨some 35,none,.build [i6 0,.str [],i6 0,.str []]
 [(0,1),(1,1),(2,1)],[.c (i6 1),.c (.str [66]),.c (i6 1)]⟩,⟨some 36,none,.bslc 8 4 1 43 [i6 0,.str [],i6 0,.str []] [(0,4)],[.t 35]⟩,ON 37 (.call 25 false) [.t 33,.t 34,.t 36,.c
 (i6 0)],MV 32 37,O1 38 (.ext 0) 32,O1 39 (.ext 1) 32,MV 5 38,MV 6 39] ((v6 [MV 40 4,vV 41 .neq 40 0,MV 42 41,vY 43 42 6,vZ 44 42 (.bin .neq) 43 (i6 0),PT 45 42 44,MV 46 45,vY
 47 46 5,vW 48 46 (.call 37 true) 47,⟨some 49,some (46,false),.bslc 9 1 2 9 [.str []] [(0,1),(1,1)],[.c (.str [100,101,117,115]),.c (.str [101,114,97,116])]⟩,vX 50 46 (.call 36
 true) 48 49,vW 51 46 (.un UnOp.not) 50,PT 52 46 51] (v7 52 (wa [MC 0 (.bool false)]))).seq (v6 [MV 54 5,OC 55 (.call 18 true) 54 (i6 1),MV 53 55,O1 56 (.ext 0) 53,O1 57 (.ext
 1) 53,MV 7 56,MV 8 57] (v6 [O1 59 (.load (some 4)) 2,MV 60 3,MV 61 5,ON 62 (.call 19 true) [.t 59,.t 60,.t 61,.c (i6 1)],MV 58 62,O1 63 (.ext 0) 58,O1 64 (.ext 1) 58,MV 9 63,MV
 10 64] (wa [MV 65 8,vV 66 .eql 65 0,MV 67 66,MG 68 67 true 10,PC 69 67 true (.bin .eql) 68 (i6 0),PF 70 67 69,MV 71 70,MG 72 71 true 7,PC 73 71 true (.bin .eql) 72 (i6 0),PF 74
 71 73,MV 75 74,MG 76 75 true 9,⟨some 77,some (75,true),.bslc 10 1 1 3 [i6 0] [(0,1)],[.c (i6 1)]⟩,P2 78 75 true (.call 45 true) 76 77,PF 79 75 78,MV 0 79])))))))))
theorem qcs:qN Tryz.prog 16 80 11 [RV.tmp 0] qee:=fi Tryz.f16 [11,16,21,22,23,24,25,2,36,49,77] oW [3]
def qek:C:=
 (v6 [MC 0 (.bool false)] (v6 [MC 1 (.fn (Fn.func 88) [] [])] (v6 [⟨some 11,none,.bslc 0 1 2 9 [.str []] [(0,1),(1,1)],[.c (.str [65]),.c (.str [66])]⟩,MV 12 1,OC 13 .callv 12
 (.str [97]),MV 14 1,OC 15 .callv 14 (.str [99]),⟨some 16,none,.bslc 1 6 2 92 [.str [],.str [],.str [],i6 0,i6 0,.str []] [(0,6),(6,6)],[.t 13,.t 15]⟩,MV 17 1,OC 18 .callv 17
 (.str [98]),MV 19 1,OC 20 .callv 19 (.str [99]),⟨some 21,none,.bslc 2 6 2 92 [.str [],.str [],.str [],i6 0,i6 0,.str []] [(0,6),(6,6)],[.t 18,.t 20]⟩,⟨some 22,none,.bslc 3 1 2
 93 [.nl] [(0,1),(1,1)],[.t 16,.t 21]⟩,⟨some 23,none,.bslc 4 1 2 3 [i6 0] [(0,1),(1,1)],[.c (i6 0),.c (i6 0)]⟩,⟨some 24,none,.bslc 5 1 2 3 [i6 0] [(0,1),(1,1)],[.c (i6 1),.c (i6
 1)]⟩,⟨some 25,none,.bslc 6 1 2 39 [.nl] [(0,1),(1,1)],[.t 23,.t 24]⟩,⟨some 26,none,.build [.str [],.nl,.nl,.nl] [(0,1),(1,1),(2,1),(3,1)],[.c (.str [73]),.t 11,.t 22,.t
 25]⟩,⟨some 2,none,.alloc 7 26 [.str [],.nl,.nl,.nl],[]⟩,ST 4 2 26] ((C.wk.seq (wc [O1 28 (.load (some 4)) 2,O1 29 (.call 31 true) 28,MV 27 29,O1 30 (.ext 0) 27,O1 31 (.ext 1)
 27,MV 3 30,MV 4 31])).seq (v6 [O1 33 (.load (some 4)) 2,MV 34 3,ON 35 (.call 25 false) [.t 33,.t 34,.c .nl,.c (i6 1)],MV 32 35,O1 36 (.ext 0) 32,O1 37 (.ext 1) 32,MV 5 36,MV 6
 37] (v6 [O1 39 (.load (some 4)) 2,MV 40 3,MV 41 5,ON 42 (.call 19 true) [.t 39,.t 40,.t 41,.c (i6 0)],MV 38 42,O1 43 (.ext 0) 38,O1 44 (.ext 1) 38,MV 7 43,MV 8 44] (v6 [O1 46
 (.load (some 4)) 2,MV 47 3,MV 48 5,ON 49 (.call 19 true) [.t 46,.t 47,.t 48,.c (i6 1)],MV 45 49,O1 50 (.ext 0) 45,O1 51 (.ext 1) 45,MV 9 50,MV 10 51] (wa [MV 52 4,vV 53 .eql 52
 0,MV 54 53,MG 55 54 true 6,PC 56 54 true (.bin .eql) 55 (i6 0),PF 57 54 56,MV 58 57,MG 59 58 true 8,PC 60 58 true (.bin .eql) 59 (i6 0),PF 61 58 60,MV 62 61,MG 63 62 true 10,PC
 64 62 true (.bin .eql) 63 (i6 0),PF 65 62 64,MV 66 65,MG 67 66 true 5,P1 68 66 true (.call 37 true) 67,⟨some 69,some (66,true),.bslc 8 1 2 9 [.str []] [(0,1),(1,1)],[.c (.str
 [98]),.c (.str [99])]⟩,P2 70 66 true (.call 36 true) 68 69,PF 71 66 70,MV 72 71,MG 73 72 true 7,⟨some 74,some (72,true),.bslc 9 1 1 3 [i6 0] [(0,1)],[.c (i6 1)]⟩,P2 75 72 true
 (.call 45 true) 73 74,PF 76 72 75,MV 77 76,MG 78 77 true 9,⟨some 79,some (77,true),.bslc 10 1 2 3 [i6 0] [(0,1),(1,1)],[.c (i6 0),.c (i6 1)]⟩,P2 80 77 true (.call 45 true) 78
 79,PF 81 77 80,MV 0 81]))))))))
theorem qcA:qN Tryz.prog 30 82 11 [RV.tmp 0] qek:=fi Tryz.f30 [11,16,21,22,23,24,25,2,69,74,79] oW [3]
end
section
open Go Go.Proofs AF
def oY:List Nat:= []
def qep:C:=
 (v6 [⟨some 2,none,.alloc 0 92 [.str [],.str [],.str [],i6 0,i6 0,.str []],[]⟩] (wa [MV 3 0,MV 4 0,⟨some 5,none,.build [.str [],.str [],.str [],i6 0,i6 0,.str []]
 [(0,1),(1,1)],[.t 3,.t 4]⟩,ST 6 2 5]))
theorem qcG:qN Tryz.prog 68 6 1 [RV.cell 2 (some 6)] qep:=fi Tryz.f68 [2] oY []
def qeu:C:=
 (v6 [⟨some 2,none,.alloc 0 92 [.str [],.str [],.str [],i6 0,i6 0,.str []],[]⟩] (wa [MV 3 0,MV 4 0,⟨some 5,none,.build [.str [],.str [],.str [],i6 0,i6 0,.str []]
 [(0,1),(1,1)],[.t 3,.t 4]⟩,ST 6 2 5]))
theorem qcN:qN Tryz.prog 88 6 1 [RV.cell 2 (some 6)] qeu:=fi Tryz.f88 [2] oY []
end
section
open Go Go.Proofs AF HY LN
namespace RC
def stT(x:Co)(d:List Dc):Bool:= !BE x&&(!Xu d&&decide (coE x=0))
def tL(x:Co)(d:List Dc):List Un:=if stT x d=true then wI x else []
def tR(x:Co)(d:List Dc)(s:Int):List Wd:=if stT x d=true then esR x (wI x) d s else []
def tB(x:Co)(d:List Dc)(s:Int):Bool:=stT x d&&decide (esE x (wI x) d s=0)
theorem mdT(x:Co)(d:List Dc)(s:Int)(h:w6)(hp:kt SG h)(hg:z7 h frmN frmC)(h1:CoB x)(h2:d.length<=9223372036854775807):
  ACalls Tryz.prog 15 [.agg (coC x),jG d,.int .i64 s] h (.tup [zf (tL x d),zV (tR x d s),.bool (tB x d s)]) h:=by
 have c1:=λh=>qeC x h h1
 have c3:=λh=>Ot d h h2
 unfold tL tR tB stT;cases e1:BE x with
 |true=>
  rw[e1]at c1;unfold coC at c1;refine acO Zb ?_;simp (disch:=omega) only[He,coC,go_sem]
  repeat' first|(refine qj ( .int .i64 0) ?_;simp (disch:=omega) only[go_sem])|(refine cA (c1 _) flk ?_;simp (disch:=omega) only[go_sem])|(apply qb;exact rvk;simp only[go_sem])
  exact VLe.tup ⟨qY,qY,qi,trivial⟩
 |false=>
 obtain⟨o1,o2,o3⟩:=iT e1;have c2:=λl'=>coP x (h++l') o1 (hp.app l')
 have c2':=λl'=>coR x (h++l') o1 (hp.app l')
 rw[e1]at c1;cases e3:Xu d with
 |true=>
  rw[e3]at c3;unfold coC at c1;refine acO Zb ?_;simp (disch:=omega) only[He,coC,go_sem]
  repeat' first|(refine qj ( .int .i64 0) ?_;simp (disch:=omega) only[go_sem])|((first|refine cA (c1 _) ?_ ?_|refine cG (λe=>c3 _) ?_ ?_);exact flk;simp (disch:=omega) only[go_sem])|(apply qb;exact rvk;simp only[go_sem])
  exact VLe.tup ⟨qY,qY,qi,trivial⟩
 |false=>
 rw[e3]at c3;obtain⟨d1,d2,d3⟩:=fE e3;have d4: ∀o∈d,o.txt.length<=1000:=λo ho=>by have:=d3 o ho;omega
 by_cases e2:coE x=0
 case neg=>
  have k2:(coE x=0)=False:=eqf e2;rw[dqf e2];obtain⟨E,hE⟩:=wD (coE x)
  simp only[<-hE]at c2 k2;unfold coC at c1 c2;refine acO Zb ?_;simp (disch:=omega) only[He,coC,go_sem]
  repeat' first|(refine qj ( .int .i64 0) ?_;simp (disch:=omega) only[go_sem])|((first|refine cA (c1 _) ?_ ?_|refine cG (λe=>c3 _) ?_ ?_|refine cG (λe=>c2 _) ?_ ?_);exact flk;simp (disch:=omega) only[k2,go_sem])|(apply qb;exact rvk;simp only[go_sem])
  exact VLe.tup ⟨qY,qY,qi,trivial⟩
 rw[dqt e2];simp only[e2]at c2 c2';have ho:=kh e2;have hsg:=ho.sg;have zu:=nX (x:=x) om om;have c4:=λl'=>Aq x (h++l') o1 (hp.app l')
 have u1:utR x=wI x:=by unfold utR;rw[ipo e2]
 have u2:utE x=0:=by unfold utE;rw[ipo e2]
 rw[u1,u2]at c4;have c5:=λl'=>LR x (wI x) d s (h++l') o1 zu (hp.app l') hg.app om d4 (λg=>db om d4 g)
 obtain⟨E,hE⟩:=wD (esE x (wI x) d s)
 obtain⟨b,hb⟩:=wD (esR x (wI x) d s)
 obtain⟨l,hl⟩:=wD (wI x)
 simp only[<-hE,<-hb]at c5;simp only[<-hl]at c4 c5 ⊢;rw[<-hl]at hE hb;simp only[<-hE,<-hb,Bool.not_false,Bool.true_and,Bool.and_true,if_true];unfold coC at c1 c2 c2' c4 c5
 by_cases e4:E=0
 ·have k3:(E=0)=True:=eqt e4;rw[dqt e4];refine acO Zb ?_;simp (disch:=omega) only[He,coC,go_sem]
  repeat' first|((first|refine cA (c1 _) ?_ ?_|refine cG (λe=>c3 _) ?_ ?_|refine cG (λe=>c2 _) ?_ ?_|refine cG (λe=>c2' _) ?_ ?_|refine cA (c4 _) ?_ ?_|refine cA (c5 _) ?_ ?_);exact flk;simp (disch:=omega) only[k3,go_sem])|exact wj|with_reducible apply aiA|exact clz|fail
 ·have k3:(E=0)=False:=eqf e4;rw[dqf e4];refine acO Zb ?_;simp (disch:=omega) only[He,coC,go_sem]
  repeat' first|((first|refine cA (c1 _) ?_ ?_|refine cG (λe=>c3 _) ?_ ?_|refine cG (λe=>c2 _) ?_ ?_|refine cG (λe=>c2' _) ?_ ?_|refine cA (c4 _) ?_ ?_|refine cA (c5 _) ?_ ?_);exact flk;simp (disch:=omega) only[k3,go_sem])|exact wj|with_reducible apply aiA|exact clz|fail
theorem Rm{x:Co}{d:List Dc}{s:Int}(h:tB x d s=true):yx x∧(x.col.length<=24∧x.sig.length<=36)∧bo (wI x)∧d.length<=6∧(∀o∈d,o.txt.length<=1000)∧0<=s∧wt x (wI x) d s.toNat∧
  tL x d=wI x∧tR x d s=bsW (rwA x (wI x) d s.toNat):=by
 unfold tB at h;rw[Bool.and_eq_true,decide_eq_true_iff]at h;obtain⟨h1,h2⟩:=h;have h3:=h1;unfold stT at h3;rw[Bool.and_eq_true,Bool.and_eq_true,Bool.not_eq_true',Bool.not_eq_true',decide_eq_true_iff]at h3;obtain⟨a1,a3,a2⟩:=h3;obtain⟨o1,o2,o3⟩:=iT a1;obtain⟨d1,d2,d3⟩:=fE a3;obtain⟨s0,E⟩:=LO h2;refine⟨o1,⟨o2,o3⟩,nX om om,d1,λo ho=>by have:=d3 o ho;omega,s0,E,?_,?_⟩
 ·unfold tL;rw[ipo h1]
 ·unfold tR;rw[ipo h1];unfold esR;rw[ipo h2]
theorem _root_.AF.Wk.freezeX(ks:List Nat){t:w7}{h:w6}{j v:Nat}{ty:TypeId}{cs cs':w7}(hs:j8 ks h=true)(hj:qv j h=some (.mem v ty cs))(hn:j∉ks)(hc:yv (cs.map (frz (λk=>ks.contains k) h 8)) cs'):
  Wk t h (t.map (frz (λk=>ks.contains k) h 8)) (qu j (xu ks h) (.mem v ty cs')):=by
 have h1:=Wk.freezeC ks (t:=t) hs hj hn;have hl:j<(xu ks h).length:=zA ((fN hn).trans hj);have h2:=Wk.cells (t:=t.map (frz (λk=>ks.contains k) h 8)) (j:=j) (jl (o:= .mem v ty (cs.map (frz (λk=>ks.contains k) h 8))) hl) hc;rw[kZ]at h2;exact Wk.trans h1 h2
def yT:Co:=⟨[97],[[65],[66]],[[tkS gv,tkS qbz],[tkS gv,tkS sD]],[[0,0],[1,1]]⟩
theorem qeW:utR yT=yL∧utE yT=0:=by decide+kernel
theorem qeU:esE yT yL yD 0=0∧esR yT yL yD 0=yB:=by decide+kernel
theorem qeV:soE yT yL yB 1=0∧soL yT yL yB 1= [1]:=by decide+kernel
theorem Ro(s:Str)(h:w6):ACalls Tryz.prog 68 [.str s] h (.agg (tkC (tkS s))) h:=by
 unfold tkS tkC;refine acO qcG ?_;simp (disch:=omega) only[qep,go_sem]
 repeat' first|exact wj|fail
theorem qec(h:w6)(hp:kt SG h)(hg:z7 h frmN frmC):ACalls Tryz.prog 16 [] h (.bool true) h:=by
 have c1:=λs h=>Ro s h
 unfold tkS tkC at c1;refine acO qcs ?_;simp (disch:=omega) only[qee,go_sem]
 repeat' first|(refine qy (c1 gv _) ?_;simp (disch:=omega) only[go_sem])|(refine qy (c1 qbz _) ?_;simp (disch:=omega) only[go_sem])|(refine qy (c1 sD _) ?_;simp (disch:=omega) only[go_sem])
 refine⟨_,_,Wk.freezeX [h.length,h.length+1,h.length+2,h.length+3,h.length+4,h.length+5,h.length+6] (j:=h.length+7) (v:=1) (ty:=26) (cs:= [.str [97],.osl h.length 1 1 0 2,.osl (h.length+3) 1 1 0 2,.osl (h.length+6) 1 1 0 2]) (cs':=coC yT) ?w1 ?w2 ?w3 ?w5,?_⟩
 case w1=>simp only[j8,go_sem]
 case w2=>simp only[go_sem]
 case w3=>simp
 case w5=>
  obtain⟨fz,hfz⟩: ∃fz:Nat->Bool,fz=λk=> [h.length,h.length+1,h.length+2,h.length+3,h.length+4,h.length+5,h.length+6].contains k:=⟨_,rfl⟩
  rw[<-hfz];have f0:fz (h.length)=true:=by rw[hfz];simp
  have f1:fz (h.length+1)=true:=by rw[hfz];simp
  have f2:fz (h.length+2)=true:=by rw[hfz];simp
  have f3:fz (h.length+3)=true:=by rw[hfz];simp
  have f4:fz (h.length+4)=true:=by rw[hfz];simp
  have f5:fz (h.length+5)=true:=by rw[hfz];simp
  have f6:fz (h.length+6)=true:=by rw[hfz];simp
  clear hfz;simp only[go_sem,coC,List.map_cons,List.map_nil,f0,f3,f6,if_true];refine⟨qi,vl2 ⟨ie rfl,trivial⟩ ⟨ie rfl,trivial⟩,vl2 ⟨?a1,trivial⟩ ⟨?a2,trivial⟩,vl2 ⟨?a3,trivial⟩ ⟨?a4,trivial⟩,trivial⟩
  all_goals
   simp only[go_sem,f1,f2,f4,f5,if_true];exact il2 rfl rfl
 have zs:yx yT:=(iT (by decide+kernel)).1;have zu:bo yL:=(BF (by decide+kernel)).1;have c2:=λl'=>Aq yT (h++l') zs (hp.app l')
 rw[qeW.1,qeW.2]at c2;have t1: ∀o∈yD,o.txt.length<=1000:=by decide
 have c3:=λl'=>LR yT yL yD 0 (h++l') zs zu (hp.app l') hg.app (by decide) t1 (λg=>db (by decide) t1 g)
 rw[qeU.1,qeU.2]at c3;have ht: ∀i,(yB.getD i default).text.length<=1000000000:=jp yB (λw=>w.text.length<=1000000000) (by decide) (by decide);have c4:=λl'=>dc yT yL yB 1 (h++l') zs zu (by decide) ht (by decide) (hp.app l')
 rw[qeV.1,qeV.2]at c4;have c5:=λh=>Lu yB 1 h
 have w1:=λh=>G6 yB h (by decide)
 have e1:pS yB= [gv,sD]:=rfl;rw[e1]at w1;have hc8:([h.length+8]:List Nat).contains (h.length+8)=true:=by simp
 unfold coC at c2 c4;have g0:([h.length,h.length+1,h.length+2,h.length+3,h.length+4,h.length+5,h.length+6]:List Nat).contains (h.length)=true:=by simp
 have g1:([h.length,h.length+1,h.length+2,h.length+3,h.length+4,h.length+5,h.length+6]:List Nat).contains (h.length+1)=true:=by simp
 have g2:([h.length,h.length+1,h.length+2,h.length+3,h.length+4,h.length+5,h.length+6]:List Nat).contains (h.length+2)=true:=by simp
 have g3:([h.length,h.length+1,h.length+2,h.length+3,h.length+4,h.length+5,h.length+6]:List Nat).contains (h.length+3)=true:=by simp
 have g4:([h.length,h.length+1,h.length+2,h.length+3,h.length+4,h.length+5,h.length+6]:List Nat).contains (h.length+4)=true:=by simp
 have g5:([h.length,h.length+1,h.length+2,h.length+3,h.length+4,h.length+5,h.length+6]:List Nat).contains (h.length+5)=true:=by simp
 have g6:([h.length,h.length+1,h.length+2,h.length+3,h.length+4,h.length+5,h.length+6]:List Nat).contains (h.length+6)=true:=by simp
 have g7:([h.length,h.length+1,h.length+2,h.length+3,h.length+4,h.length+5,h.length+6]:List Nat).contains (h.length+7)=false:=by simp
 have g8:([h.length,h.length+1,h.length+2,h.length+3,h.length+4,h.length+5,h.length+6]:List Nat).contains (h.length+8)=false:=by simp
 simp (disch:=omega) only[xu,coC,g0,g1,g2,g3,g4,g5,g6,g7,Bool.false_eq_true,go_sem]
 repeat' first|(refine cA (c2 _) flk ?_;simp (disch:=omega) only[go_sem])|with_reducible apply aiA|exact clz|fail
 refine qE (r:= .tup [zV yB,.int .i64 0]) (h':=h++ [.emp 2,.emp 2,.emp 2,.emp 2,.emp 2,.emp 2,.emp 2,.mem 1 26 [.str yT.sec,strs yT.sig,qm yT.tok,qo yT.col],.emp 2,.emp 0,.emp 0]) (ACalls.frzd [h.length+8] ?s1 ?c) (by exact flk) ?_
 case s1=>simp only[j8,go_sem]
 case c=>
  simp only[xu,go_sem];refine ACalls.le (c3 _) ?_ (qi);simp only[go_sem,coC,hc8,if_true];exact⟨qi,qi,VLe.sl_eq rfl (λi hi=>by
   obtain rfl:i=0:=by omega
   rfl),qi,trivial⟩
 have d1:deR yB 1=0∧deE yB 1=0:=by decide
 rw[d1.1,d1.2]at c5;simp (disch:=omega) only[go_sem]
 repeat' first|(refine cG (λe=>w1 _) flk ?_;simp (disch:=omega) only[go_sem])|with_reducible apply aiA|exact clz|fail
 refine cG (λ_=>qeA (L:= [gv,sD]) ?v2 (by decide)) (λ_=>by exact flk) ?_
 case v2=>
  simp only[List.map,go_sem];exact⟨qi,VLe.sl_eq rfl (λi hi=>by
   match i,hi with
   |0,_=>rfl
   |1,_=>rfl
   |n+2,hi=>exact absurd hi om),trivial⟩
 simp (disch:=omega) only[go_sem]
 repeat' first|((first|refine cA (c5 _) ?_ ?_|refine cA (c4 _) ?_ ?_);exact flk;simp (disch:=omega) only[go_sem])|with_reducible apply aiA|exact clz|fail
 refine cG (λ_=>qck (L:= [1]) ?v1 (by decide)) (λ_=>by exact flk) ?_
 case v1=>
  simp only[List.map,go_sem];exact⟨qi,VLe.sl_eq rfl (λi hi=>by
   obtain rfl:i=0:=by omega
   rfl),trivial⟩
 simp (disch:=omega) only[go_sem]
 repeat' first|exact wj|fail
def txE(x:Co)(i:Int):Int:=if coE x≠0 then 1 else if i<0∨(x.sig.length:Int)<=i then 2 else 0
def txR(x:Co)(i:Int):List Str:=if txE x i=0 then mq (x.tok.getD i.toNat []) else []
theorem qb7(x:Co)(i:Int)(h:w6)(hz:yx x)(hp:kt SG h):ACalls Tryz.prog 32 [.agg (coC x),.int .i64 i] h (.tup [strs (txR x i),.int .i64 (txE x i)]) h:=by
 have c1:=λl'=>coP x (h++l') hz (hp.app l')
 have hE:txE x i=if coE x≠0 then 1 else if i<0∨(x.sig.length:Int)<=i then 2 else 0:=rfl
 unfold txR
 by_cases g:coE x=0
 case neg=>
  have k1:(coE x=0)=False:=eqf g;rw[ipo g]at hE;rw[hE,ine (by decide)];obtain⟨e,he⟩:=wD (coE x)
  rw[<-he]at c1 k1;unfold coC at c1;refine acO Xe ?_;simp (disch:=omega) only[I9,coC,go_sem]
  repeat' first|((first|refine cA (c1 _) ?_ ?_|refine cG (λe=>c1 _) ?_ ?_|refine cU (λ_=>c1 _) ?_ ?_);exact flk;simp (disch:=omega) only[coC,k1,go_sem])|((first|apply qb|apply qh);exact rvk;simp only[go_sem];first|exact qi|apply qe|apply qd|apply km|skip)|(with_reducible first|intro _|apply aiA)|exact clz|fail
  exact VLe.tup ⟨qY,qi,trivial⟩
 rw[ine (λhc=>hc g)]at hE;simp only[g]at c1;have ho:=kh g;unfold coC at c1;have zg1: ∀g,valL g .len [strs x.sig]= .int .i64 x.sig.length:=λ_=>rfl
 have zg2: ∀g,okL g .len [strs x.sig]=True:=λ_=>eqt trivial
 by_cases g1:i<0
 ·have k1:(i<0)=True:=eqt g1;rw[ipo (.inl g1)]at hE;rw[hE,ine (by decide)];refine acO Xe ?_;simp (disch:=omega) only[I9,coC,zg1,zg2,go_sem]
  repeat' first|((first|refine cA (c1 _) ?_ ?_|refine cG (λe=>c1 _) ?_ ?_|refine cU (λ_=>c1 _) ?_ ?_);exact flk;simp (disch:=omega) only[coC,k1,zg1,zg2,go_sem])|((first|apply qb|apply qh);exact rvk;simp only[go_sem];first|exact qi|apply qe|apply qd|apply km|skip)|(with_reducible first|intro _|apply aiA)|exact clz|fail
  exact VLe.tup ⟨qY,qi,trivial⟩
 have k1:(i<0)=False:=eqf g1
 by_cases g2:(x.sig.length:Int)<=i
 ·have k2:((x.sig.length:Int)<=i)=True:=eqt g2;rw[ipo (.inr g2)]at hE;rw[hE,ine (by decide)];refine acO Xe ?_;simp (disch:=omega) only[I9,coC,zg1,zg2,go_sem]
  repeat' first|((first|refine cA (c1 _) ?_ ?_|refine cG (λe=>c1 _) ?_ ?_|refine cU (λ_=>c1 _) ?_ ?_);exact flk;simp (disch:=omega) only[coC,k1,k2,zg1,zg2,go_sem])|((first|apply qb|apply qh);exact rvk;simp only[go_sem];first|exact qi|apply qe|apply qd|apply km|skip)|(with_reducible first|intro _|apply aiA)|exact clz|fail
  exact VLe.tup ⟨qY,qi,trivial⟩
 have k2:((x.sig.length:Int)<=i)=False:=eqf g2;rw[ine (λe=>e.elim g1 g2)]at hE;rw[hE,ipo rfl];obtain⟨s,rfl⟩: ∃s:Nat,i=s:=⟨i.toNat,om⟩
 rw[itn];have htl:=hz.tl s;have c2:=λh=>qeT (x.tok.getD s []) h (by have:=ho.tl s (by rw[ho.tn];omega);omega)
 have zt:qm x.tok= .sl x.tok.length λi=> [zX (x.tok.getD i [])]:=rfl
 have k3:((s:Int)<x.tok.length)=True:=eqt (by rw[ho.tn];omega);have k4:(0<=(s:Int))=True:=xv;refine acO Xe ?_;simp (disch:=omega) only[I9,coC,zg1,zg2,go_sem]
 repeat' first|((first|refine cA (c1 _) ?_ ?_|refine cG (λe=>c1 _) ?_ ?_|refine cA (c2 _) ?_ ?_|refine cG (λe=>c2 _) ?_ ?_|refine cU (λ_=>c1 _) ?_ ?_|refine cU (λ_=>c2 _) ?_ ?_);exact flk;simp (disch:=omega) only[coC,k1,k2,k3,k4,zg1,zg2,zt,go_sem])|((first|apply qb|apply qh);exact rvk;simp only[go_sem];first|exact qi|apply qe|apply qd|apply km|skip)|(with_reducible first|intro _|apply aiA)|exact clz|fail
theorem Ba{x:Co}{l:List Un}{d:List Dc}{s:Nat}(h:wt x l d s){j:Nat}(hj:j<d.length):Vd x l (d.getD j default)=0∧Gw x l (d.getD j default)=jN x l (d.getD j default):=by
 have h1:vaE x l=0:=by
  unfold vaE;rw[ine (λhc=>hc h.ca),ine];unfold rgB;rw[h.us,h.cv];simp
 have h2:Vd x l (d.getD j default)=0:=by unfold Vd;rw[ine (by simp[h1])];exact h.pl j hj
 exact⟨h2,by unfold Gw;rw[ipo h2]⟩
theorem wt.va{x:Co}{l:List Un}{d:List Dc}{s:Nat}(h:wt x l d s):vaE x l=0:=by
 unfold vaE;rw[ine (λhc=>hc h.ca),ine];unfold rgB;rw[h.us,h.cv];simp
def mxS(x:Co):Nat:=max 1 x.sig.length
def frT(x:Co)(q:Nat):Nat:=q%mxS x
theorem zmS(x:Co):valP (.mm true) [.int .i64 1,.int .i64 (x.sig.length:Int)]= .int .i64 (mxS x:Int):=by
 unfold mxS;have e:(max 1 (x.sig.length:Int))=((max 1 x.sig.length:Nat):Int):=by omega
 show AV.int .i64 (max (1:Int) (x.sig.length:Int))=_;rw[e]
theorem qc7(x:Co)(d:List Dc)(q:Nat)(h:w6)(hq:q<=255)(hp:kt SG h)(hg:z7 h frmN frmC)(h1:CoB x)(h2:d.length<=9223372036854775807):
  ACalls Tryz.prog 3 [.agg (coC x),jG d,.int .u8 (q:Int)] h (.bool true) h:=by
 obtain⟨s,hs⟩:=wD (frT x q)
 have c1:=λl'=>mdT x d (s:Int) (h++l') (hp.app l') hg.app h1 h2
 have c2:=λl'=>qec (h++l') (hp.app l') hg.app
 have hM:1<=mxS x:=Nat.le_max_left _ _;have hn1:(q:Int)%(mxS x:Int)=(s:Int):=by rw[hs];unfold frT;omega
 have hM2:(mxS x:Int)<=9223372036854775807:=by have:=h1.sg;unfold mxS;omega
 have zm:=zmS x;have zn:okP (.mm true) [.int .i64 1,.int .i64 (x.sig.length:Int)]=True:=eqt (by simp[okP,xt]);obtain⟨M,hMM⟩:=wD (mxS x)
 rw[<-hMM]at hM hn1 hM2 zm;have zg1: ∀g,valL g .len [strs x.sig]= .int .i64 x.sig.length:=λ_=>rfl
 have zg2: ∀g,okL g .len [strs x.sig]=True:=λ_=>eqt trivial
 have k0:((M:Int)=0)=False:=xD;obtain⟨B,hB⟩:=wD (tB x d s)
 obtain⟨l,hl⟩:=wD (tL x d)
 obtain⟨b,hb⟩:=wD (tR x d s)
 simp only[<-hB,<-hl,<-hb]at c1;unfold coC at c1;cases B with
 |false=>
  refine acO qeB ?_;simp (disch:=omega) only[c3s,coC,zg1,zg2,zm,zn,hn1,go_sem]
  repeat' first|((first|refine cA (c1 _) ?_ ?_|refine cA (c2 _) ?_ ?_);exact flk;simp (disch:=omega) only[go_sem])|exact wj|with_reducible apply aiA|exact clz|fail
 |true=>
 obtain⟨o1,⟨o2,o3⟩,zu,d1,d3,s0,E,e1,e2⟩:=Rm hB.symm;rw[<-hl]at e1;rw[<-hb]at e2;rw[itn]at E e2;have hln:=E.ln;have hsl:=E.sl;have hlen:b.length=(rwA x (wI x) d s).length:=by rw[e2,jD]
 have hpv:=LP E;rw[<-e2]at hpv;have F:=λi (hi:i<(rwA x (wI x) d s).length)=>oK E hi rfl
 rw[<-e2]at F;have FW:=λi (hi:i<(rwA x (wI x) d s).length)=>DY E hi
 rw[<-e2]at FW;have FLt:=λi (hi:i<(rwA x (wI x) d s).length) j hj=>DX E hi (j:=j) hj
 have FU:=λj hj=>Ba E (j:=j) hj
 have bu: ∀i,i<b.length->(b.getD i default).unit=((rwA x (wI x) d s).getD i default).u:=λi hi=>by rw[e2];exact mC om
 have bd: ∀i,i<b.length->(b.getD i default).dec=((rwA x (wI x) d s).getD i default).d:=λi hi=>by rw[e2];exact A1 om
 rw[<-e1]at hpv zu FW FLt FU F hlen hln;simp only[<-e1]at bu bd;have ht: ∀i,(b.getD i default).text.length<=1000000000:=jp b (λw=>w.text.length<=1000000000) (by decide) λi hi=>by have:=(F i om).2.1.2;omega
 have c3:=λl'=>pvP x l b (h++l') o1 zu om ht (hp.app l')
 rw[hpv]at c3;have zb1: ∀g,valL g .len [zV b]= .int .i64 b.length:=λ_=>rfl
 have zb2: ∀g,okL g .len [zV b]=True:=λ_=>eqt trivial
 have zd1: ∀g,valL g .len [jG d]= .int .i64 d.length:=λ_=>rfl
 have zd2: ∀g,okL g .len [jG d]=True:=λ_=>eqt trivial
 have zb0:zV b= .sl b.length λi=>wdC (b.getD i default):=rfl
 have zd0:jG d= .sl d.length λi=>dcC (d.getD i default):=rfl
 have zs0:strs x.sig= .sl x.sig.length λj=> [.str (x.sig.getD j [])]:=rfl
 unfold coC at c3;refine acO qeB ?_;simp (disch:=omega) only[c3s,coC,zg1,zg2,zm,zn,hn1,go_sem]
 repeat' first|((first|refine cA (c1 _) ?_ ?_|refine cA (c3 _) ?_ ?_);exact flk;simp (disch:=omega) only[zb1,zb2,go_sem])|with_reducible apply aiA|exact clz|fail
 refine qp (T:=λi:Nat×AObj×AObj=>zw 166 [(1,jG d),(3,.op h.length 1 0),(7,.int .i64 s),(8,zf l),(9,zV b),(46,zV b),(47,.int .i64 b.length),(48,.int .i64 i.1)])
  (H:=λi=>h++ [.mem 1 26 (coC x),i.2.1,i.2.2])
  (inv:=λi=>i.1<=b.length∧qK [i.2.1] 0=true∧qK [i.2.2] 0=true) (m:=λi=>b.length-i.1) (0,.emp 0,.emp 0) ⟨nzl _,rfl,rfl⟩ (Wk.temps ?_) ?_
 ·(simp only[go_sem,qg,qc,qa,qf];try exact wr)
 rintro⟨i,O1,O2⟩ ⟨i1,i2,i3⟩ K hK;simp only at i1 i2 i3 hK;have i2': ∀m,qK (O1::m) 0=true:=λ_=>i2
 have i3': ∀m,qK (O2::m) 0=true:=λ_=>i3
 by_cases hi:i<b.length
 case neg=>
  have k1:((i:Int)<b.length)=False:=xD;simp (disch:=omega) only[k1,go_sem]
  repeat' first|(refine cA (c2 _) flk ?_;simp (disch:=omega) only[go_sem])|exact wj|fail
 have k1:((i:Int)<b.length)=True:=xv;have c4:=λh=>Lu b i h
 have c5:=λl'=>dc x l b i (h++l') o1 zu om ht om (hp.app l')
 obtain⟨_,_,⟨f5,f6⟩,_⟩:=F i om;have eE:deE b i=0:=by unfold deE;rw[ine om]
 have eR:deR b i=(b.getD i default).dec:=by unfold deR;rw[ipo eE,itn]
 have eS:soE x l b i=0:=by unfold soE;rw[ine (by simp[hpv]),ine om]
 have eL:soL x l b i=soK x l b i:=by unfold soL;rw[ipo eS,itn]
 rw[eE,eR]at c4;rw[eS,eL]at c5;obtain⟨fw1,fw2⟩:=FW i om;have fl:=FLt i om;rw[<-bd i hi]at fw1 fw2;rw[<-bu i hi]at fw2;simp only[<-bd i hi,<-bu i hi]at fl;have hsn:(soK x l b i).length<=x.sig.length:=(J7 hpv (i:=i) hi).1;obtain⟨Si,hSi⟩: ∃S,S=soK x l b i:=⟨_,rfl⟩
 rw[<-hSi]at fw1 fw2 hsn;simp only[<-hSi]at c5;obtain⟨w,hw⟩:=wD (b.getD i default)
 have ew:=hw.symm;simp only[ew]at c4 fw1 fw2 fl f5 f6;have q1:(w.dec< -1)=False:=xD;have q2:((d.length:Int)<=w.dec)=False:=xD;unfold coC at c5;simp (disch:=omega) only[zb0,wdC,coC,k1,ew,i2',go_sem]
 repeat' first|((first|refine cA (c4 _) ?_ ?_|refine cA (c5 _) ?_ ?_);exact flk;simp (disch:=omega) only[zd1,zd2,q1,q2,go_sem])|with_reducible apply aiA|exact clz|fail
 refine qp (T:=λn:Nat×AObj=>zw 166 [(1,jG d),(3,.op h.length 1 0),(7,.int .i64 s),(8,zf l),(9,zV b),(12,.op (h.length+1) (qn (some O1)+1) 0),(13,.int .i64 w.dec),(15,qz Si),(46,zV b),(47,.int .i64 b.length),(48,.int .i64 i),(83,jG d),(84,.int .i64 d.length),(85,.int .i64 n.1)])
  (H:=λn=>h++ [.mem 1 26 (coC x),.mem (qn (some O1)+1) 36 (wdC w),n.2])
  (inv:=λn=>n.1<=d.length∧qK [n.2] 0=true) (m:=λn=>d.length-n.1) (0,O2) ⟨nzl _,i3⟩ (Wk.temps ?_) ?_
 ·(simp only[go_sem,qg,qc,qa,qf];try exact wr)
 rintro⟨n,P⟩ ⟨n1,n2⟩ K2 hK2;simp only at n1 n2 hK2;have n2': ∀m,qK (P::m) 0=true:=λ_=>n2
 by_cases hn:n<d.length
 ·have m1:((n:Int)<d.length)=True:=xv;have c7:=λl'=>qbB x l (d.getD n default) (h++l') o1 zu (hp.app l') hg.app (d3 _ (zh hn))
  obtain⟨g1,g2⟩:=FU n hn;simp only[g1,g2]at c7;have fln:=fl n hn;obtain⟨p,hpp⟩:=wD (jN x l (d.getD n default))
  rw[<-hpp]at fln;simp only[<-hpp]at c7;obtain⟨o,ho⟩:=wD (d.getD n default)
  have eo:=ho.symm;simp only[eo]at c7;unfold coC dcC at c7
  by_cases e:p=w.unit
  ·have m2:(p=w.unit)=True:=eqt e;have m3:(w.dec<(n:Int))=False:=eqf (by have:=fln e;omega);simp (disch:=omega) only[zd0,dcC,coC,wdC,m1,eo,n2',go_sem]
   repeat' first|(refine cA (c7 _) flk ?_;simp (disch:=omega) only[m2,m3,go_sem])|with_reducible apply aiA|exact clz|fail
   refine hK2 _ _ (n+1,.mem (qn (some P)+1) 43 (dcC o)) ⟨hn,rfl⟩ (by simp only;omega) ?_;simp only[dcC,coC,wdC];refine Wk.temps ?_
   (simp only[go_sem,qg,qc,qa,qf];try exact wr)
  ·have m2:(p=w.unit)=False:=eqf e;simp (disch:=omega) only[zd0,dcC,coC,wdC,m1,eo,n2',go_sem]
   repeat' first|(refine cA (c7 _) flk ?_;simp (disch:=omega) only[m2,go_sem])|(apply qb;exact rvk;simp only[go_sem];apply qd)|(with_reducible first|intro _|apply aiA)|exact clz|fail
   refine hK2 _ _ (n+1,.mem (qn (some P)+1) 43 (dcC o)) ⟨hn,rfl⟩ (by simp only;omega) ?_;simp only[dcC,coC,wdC];refine Wk.temps ?_
   (simp only[go_sem,qg,qc,qa,qf];try exact wr)
 have m1:((n:Int)<d.length)=False:=xD;obtain rfl:n=d.length:=by omega
 have nxt: ∀K,K=(i+1,AObj.mem (qn (some O1)+1) 36 (wdC w),P)->K.1<=b.length∧qK [K.2.1] 0=true∧qK [K.2.2] 0=true:=λK e=>by rw[e];exact⟨hi,rfl,n2⟩
 by_cases hk:w.dec<0
 ·have m2:(w.dec<0)=True:=eqt hk;have c8:=λh=>WF Si s h om
  rw[dqt (fw1 hk)]at c8;simp (disch:=omega) only[m1,m2,go_sem]
  repeat' first|(refine cA (c8 _) flk ?_;simp (disch:=omega) only[go_sem])
  refine hK _ _ (i+1,.mem (qn (some O1)+1) 36 (wdC w),P) ⟨hi,rfl,n2⟩ (by simp only;omega) ?_;simp only[coC,wdC];refine Wk.temps ?_
  (simp only[go_sem,qg,qc,qa,qf];try exact wr)
 have m2:(w.dec<0)=False:=eqf hk;obtain⟨v1,v2,v3,v4⟩:=fw2 om;have c7:=λl'=>qbB x l (d.getD w.dec.toNat default) (h++l') o1 zu (hp.app l') hg.app (d3 _ (zh v1))
 obtain⟨g1,g2⟩:=FU w.dec.toNat v1;simp only[g1,g2,v2]at c7;obtain⟨o,ho⟩:=wD (d.getD w.dec.toNat default)
 have eo:=ho.symm;simp only[eo]at c7 v3 v4;have m3:(0<=w.dec)=True:=xv;have m4:(w.dec<(d.length:Int))=True:=xv;have m5:(w.unit=w.unit)=True:=eqt rfl;have m6:(o.kind=3)=False:=eqf v3;unfold coC dcC at c7
 by_cases hkd:o.kind=1
 ·have m7:(o.kind=1)=True:=eqt hkd;have c8:=λh=>WF Si (zM x o.sig) h om
  rw[dqt (v4 hkd)]at c8;have c9: ∀h,ACalls Tryz.prog 22 [.sl x.sig.length (λj=> [.str (x.sig.getD j [])]),.str o.sig] h (.int .i64 (zM x o.sig)) h:=λh=>XJ x.sig.length (λj=>x.sig.getD j []) o.sig h om
  simp (disch:=omega) only[m1,m2,zd0,dcC,coC,wdC,eo,m3,m4,go_sem]
  repeat' first|((first|refine cA (c7 _) ?_ ?_|refine cG (λe=>c9 _) ?_ ?_|refine cG (λe=>c8 _) ?_ ?_);exact flk;simp (disch:=omega) only[zs0,eo,m3,m4,m6,m7,go_sem])|with_reducible apply aiA|exact clz|fail
  refine hK _ _ (i+1,.mem (qn (some O1)+1) 36 (wdC w),P) ⟨hi,rfl,n2⟩ (by simp only;omega) ?_;simp only[coC,wdC];refine Wk.temps ?_
  (simp only[go_sem,qg,qc,qa,qf];try exact wr)
 ·have m7:(o.kind=1)=False:=eqf hkd;simp (disch:=omega) only[m1,m2,zd0,dcC,coC,wdC,eo,m3,m4,go_sem]
  repeat' first|(refine qj ( .bool false) ?_;simp (disch:=omega) only[go_sem])|(refine cA (c7 _) flk ?_;simp (disch:=omega) only[eo,m3,m4,m6,m7,go_sem])|with_reducible apply aiA|exact clz|fail
  refine hK _ _ (i+1,.mem (qn (some O1)+1) 36 (wdC w),P) ⟨hi,rfl,n2⟩ (by simp only;omega) ?_;simp only[coC,wdC];refine Wk.temps ?_
  (simp only[go_sem,qg,qc,qa,qf];try exact wr)
end RC
end
section
open Go Go.Proofs AF HY Go.ChangeShapes Go.RowKit
namespace LN
theorem qcW : Tryz.prog.globalNamed "internal/strconv.uint64pow10" = some 3 := by kernel_rfl
theorem qcY : Tryz.prog.globalNamed "strconv.ErrSyntax" = some 7 := by kernel_rfl
theorem qcX : Tryz.prog.globalNamed "strconv.ErrRange" = some 8 := by kernel_rfl
theorem qeE : Tryz.prog.globalNamed "apograph/transcript.forms" = some 4 := by kernel_rfl
theorem Yq{w w':World}(h:Ci w)(e:w'.heap[3]? =w.heap[3]?):Ci w':=by
 unfold Ci Lib.TabIs at*;rw[hJ qcW e];exact h
theorem nN : "*" ++ "errors.errorString" = "*errors.errorString" := by decide
theorem B1 (u : TypeId) (h : Tryz.prog.typeName? 3 u = some "*errors.errorString") : u = 348 :=
 typeName_ptr_named (nm := "errors.errorString") (by rw [nN]; kernel_rfl) (by kernel_rfl) (by decide) u (by rw [nN]; exact h)
structure Fr where
 s:List UInt8
 a:Bool
 b:Bool
 c:Bool
def Fr.av(r:Fr):w7:= [.str r.s,.bool r.a,.bool r.b,.bool r.c]
def Fr.vl(r:Fr):List Value:= [.string ⟨r.s.toArray⟩,.bool r.a,.bool r.b,.bool r.c]
def Fr.da{H:Type}(r:Fr):DataW H:= .agg [.lit (.string r.s),.lit (.bool r.a),.lit (.bool r.b),.lit (.bool r.c)]
def frL:List Fr:= [⟨[],false,false,false⟩,⟨[],true,false,false⟩,⟨[108,98],false,false,false⟩,⟨[112,98],true,false,false⟩,⟨[115,101,99],true,false,false⟩,⟨[118],false,false,false⟩,
 ⟨[103,97,112],false,true,false⟩,⟨[117,110,99,108,101,97,114],false,false,true⟩,⟨[97,100,100],false,true,true⟩,⟨[100,101,108],false,true,true⟩,⟨[97,98],true,false,true⟩,⟨[110,97,109,101],true,false,true⟩]
theorem Oi:RC.frmC=frL.flatMap Fr.av:=rfl
theorem Oj:(YtiiegfkjmnoijaaGreatDoor.Rows.laid_apograph_transcript_forms:DataW Unit)= .agg (frL.map Fr.da):=rfl
theorem qcr{α β:Type}{f:α->List β}(hf: ∀a,(f a).length=4): ∀(l:List α) (i j:Nat),j<4->(l.flatMap f)[i*4+j]? =(l[i]?).bind λa=>(f a)[j]? :=by
 intro l
 induction l with
 |nil=>intro i j _;simp
 |cons a l ih=>
  intro i j hj;rw[List.flatMap_cons];cases i with
  |zero=>
   rw[Nat.zero_mul,Nat.zero_add,List.getElem?_append_left (by rw[hf];exact hj)];rfl
  |succ i=>
   rw[List.getElem?_append_right (by rw[hf];omega),hf,show (i+1)*4+j-4=i*4+j by omega,ih i j hj];rfl
theorem dS:Tryz.prog.cellsOf 324=4:=by kernel_rfl
theorem mH:Tryz.prog.cellsOf 325=48:=by kernel_rfl
theorem Wt:Tryz.prog.cellsOf 9=1:=by kernel_rfl
theorem Wq:Tryz.prog.cellsOf 4=1:=by kernel_rfl
theorem PQ{H:Type}{enc:TypeId×Value->H}{w:World}{base fuel:Nat}{spare:Nat->Bool}{held:Bool}{cs:List Value}{x:DataW H×List MemPlace}{r:Fr}
  (h:DataW.trod enc Tryz.prog w base spare held fuel 324 cs=some x) (hx:x.1=r.da):cs=r.vl:=by
 obtain⟨xs,n,_,hxe,hl,hxl,hf⟩:=DataW.trod_struct Tryz.underlying324 h;rw[dS]at hl
 match cs,hl with
 | [v0,v1,v2,v3],_=>
 match xs,hxl with
 | [y0,y1,y2,y3],_=>
  have h0:DataW.trod enc Tryz.prog w base spare held n 9 (([v0,v1,v2,v3].drop 0).take (Tryz.prog.cellsOf 9))= [y0,y1,y2,y3][0]? :=hf 0 _ rfl;have h1:DataW.trod enc Tryz.prog w base spare held n 4 (([v0,v1,v2,v3].drop 1).take (Tryz.prog.cellsOf 4))= [y0,y1,y2,y3][1]? :=hf 1 _ rfl;have h2:DataW.trod enc Tryz.prog w base spare held n 4 (([v0,v1,v2,v3].drop 2).take (Tryz.prog.cellsOf 4))= [y0,y1,y2,y3][2]? :=hf 2 _ rfl;have h3:DataW.trod enc Tryz.prog w base spare held n 4 (([v0,v1,v2,v3].drop 3).take (Tryz.prog.cellsOf 4))= [y0,y1,y2,y3][3]? :=hf 3 _ rfl;rw[Wt]at h0;rw[Wq]at h1 h2 h3;obtain⟨s,e0,x0,_⟩:=DataW.trod_string Tryz.underlying9 h0;obtain⟨b1,e1,x1⟩:=DataW.trod_bool Tryz.underlying4 h1;obtain⟨b2,e2,x2⟩:=DataW.trod_bool Tryz.underlying4 h2;obtain⟨b3,e3,x3⟩:=DataW.trod_bool Tryz.underlying4 h3;have hy:([y0,y1,y2,y3]:List (DataW H×List MemPlace)).map (·.1)= [.lit (.string r.s),.lit (.bool r.a),.lit (.bool r.b),.lit (.bool r.c)]:=by
   have hx:=hxe▸hx;exact DataW.agg.inj hx
  rw[x0,x1,x2,x3]at hy;simp at hy e0 e1 e2 e3;obtain⟨g0,g1,g2,g3⟩:=hy;unfold Fr.vl;subst e0 e1 e2 e3;rw[<-g0,g1,g2,g3]
theorem qcV {W : World} {rest : List (String × DataW Unit)} (h : laidMet Tryz.prog (("apograph/transcript.forms", YtiiegfkjmnoijaaGreatDoor.Rows.laid_apograph_transcript_forms) :: rest) W) : ra 4 RC.frmC W := by
 obtain⟨ps,⟨g',t',cs,fuel,p,q,hg',ht',hvar,hd,_,_⟩,_⟩:=h;obtain rfl:=Option.some.inj (qeE.symm.trans hg');obtain rfl:325=t':=Option.some.inj ((show (Tryz.prog.globals[4]?).map (·.type)=some 325 by kernel_rfl).symm.trans ht');obtain⟨xs,m,_,hxe,hl,hxl,hr⟩:=DataW.trod_array Tryz.underlying325 hd;rw[mH]at hl;have hxm:xs.map (·.1)=frL.map Fr.da:=by
  have:=congrArg Prod.fst hxe
  rw[Oj]at this;exact (DataW.agg.inj this).symm
 have rows: ∀i r,frL[i]? =some r->(cs.toList.drop (i*4)).take 4=r.vl:=λi r hi=>by
  have hil:i<12:=(lgs.1 hi).1;have e1:(xs.map (·.1))[i]? =some r.da:=by rw[hxm,List.getElem?_map,hi];rfl
  rw[List.getElem?_map,Option.map_eq_some_iff]at e1;obtain⟨y,hy,hy1⟩:=e1;have h1:=hr i hil;rw[hy,dS]at h1;exact PQ h1 hy1
 have hv: ∃T fz,W.heap[4]? =some (.cells cs T fz):=by
  unfold World.var? at hvar;rw[qeE]at hvar;simp only[Option.bind_some]at hvar;split at hvar
  ·rename_i c T fz hc;cases hvar;exact⟨_,_,hc⟩
  ·cases hvar
 obtain⟨T,fz,hc⟩:=hv;refine⟨cs,T,fz,hc,?_,?_⟩
 ·have:cs.size=48:=by simpa using hl
  rw[this];exact Nat.le_of_eq rfl
 intro i c x hi hx;have hij:i=i/4*4+i%4:=by omega
 rw[Oi,hij,qcr (λ_=>rfl) frL _ _ (Nat.mod_lt _ (by decide)),Option.bind_eq_some_iff]at hi;obtain⟨r,hr1,hr2⟩:=hi;have h2:=rows _ _ hr1;have h3:r.vl[i%4]? =some x:=by
  rw[<-h2,List.getElem?_take,ipo (Nat.mod_lt _ (by decide)),List.getElem?_drop,<-hij];simpa using hx
 have h4:i%4<4:=Nat.mod_lt _ (by decide);obtain⟨j,hj⟩:=wD (i%4)
 rw[<-hj]at hr2 h3 h4
 match j,h4 with
 |0,_=>cases hr2;cases h3;exact⟨rfl,λ_ _=> .str⟩
 |1,_=>cases hr2;cases h3;exact⟨rfl,λ_ _=> .bool⟩
 |2,_=>cases hr2;cases h3;exact⟨rfl,λ_ _=> .bool⟩
 |3,_=>cases hr2;cases h3;exact⟨rfl,λ_ _=> .bool⟩
theorem Eh{w w':World}(h:ra 4 RC.frmC w)(e:w'.heap[4]? =w.heap[4]?):ra 4 RC.frmC w':=by
 obtain⟨arr,T,fz,h1,h2⟩:=h;exact⟨arr,T,fz,e.trans h1,h2⟩
def xY:List Nat:= [4,3,7,8]
def YU(w:World):Prop:=RC.SG w∧ra 4 RC.frmC w
theorem P9{W:World}(h:laidMet Tryz.prog YtiiegfkjmnoijaaGreatDoor.Rows.topBaseWordsRow.laid W):Ci W∧qbp W∧ra 4 RC.frmC W:=by
 have h2:=laidMet.tail (laidMet.tail h);have h3:=laidMet.tail h2;have h4:=laidMet.tail h3;have h5:=laidMet.tail h4;obtain⟨a,s,e1,_⟩:=laid_sentinel (g:=8) (ti:=166) (tp:=348) (te:=350) (ts:=9) h3 qcX (by kernel_rfl) Tryz.underlying166 B1 Tryz.underlying348 Tryz.underlying350 rfl rfl Tryz.underlying9 (by kernel_rfl) (by kernel_rfl);obtain⟨b,t,e2,_⟩:=laid_sentinel (g:=7) (ti:=166) (tp:=348) (te:=350) (ts:=9) h4 qcY (by kernel_rfl) Tryz.underlying166 B1 Tryz.underlying348 Tryz.underlying350 rfl rfl Tryz.underlying9 (by kernel_rfl) (by kernel_rfl);exact⟨Lib.tabIs_of_head (t:=315) (e:=218) (n:=20) qcW (by kernel_rfl) Tryz.underlying315 Tryz.underlying218 (by kernel_rfl) (by kernel_rfl) h2,⟨⟨_,_,e2⟩,_,_,e1⟩,qcV h5⟩
theorem gE{W:World}(h:laidMet Tryz.prog YtiiegfkjmnoijaaGreatDoor.Rows.topBaseWordsRow.laid W): ∀b,b∈xY-> ∃arr T fz,W.heap[b]? =some (.cells arr T fz):=by
 intro b hb;obtain⟨h1,⟨⟨_,_,h2⟩,_,_,h3⟩,arr,T,fz,h4,_⟩:=P9 h;have e:b=4∨b=3∨b=7∨b=8:=by simpa[xY] using hb
 rcases e with rfl|rfl|rfl|rfl
 ·exact⟨_,_,_,h4⟩
 ·exact du qcW h1
 ·exact du qcY h2
 ·exact du qcX h3
theorem nE{W:World}(h:laidMet Tryz.prog YtiiegfkjmnoijaaGreatDoor.Rows.topBaseWordsRow.laid W): ∀w':World,(∀b,b∈xY->w'.heap[b]? =W.heap[b]?)->YU w':=by
 intro w' hs;obtain⟨h1,⟨⟨t1,p1,h2⟩,t2,p2,h3⟩,h4⟩:=P9 h;refine⟨⟨Yq h1 (hs 3 (by simp[xY])),⟨t1,p1,?_⟩,t2,p2,?_⟩,Eh h4 (hs 4 (by simp[xY]))⟩
 ·rw[hJ qcY (hs 7 (by simp[xY]))];exact h2
 ·rw[hJ qcX (hs 8 (by simp[xY]))];exact h3
theorem nD:kt RC.SG [.pin xY YU]:=⟨0,_,_,rfl,λ_ h=>h.1⟩
theorem nC:z7 [.pin xY YU] RC.frmN RC.frmC:=⟨0,_,_,rfl,by simp[xY],λ_ h=>h.2⟩
end LN
end
