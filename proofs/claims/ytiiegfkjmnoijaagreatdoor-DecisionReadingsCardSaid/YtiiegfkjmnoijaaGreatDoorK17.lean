import Derived.Test.YtiiegfkjmnoijaaGreatDoorK16
import Derived.Test.YtiiegfkjmnoijaaGreatDoorK14
import Derived.Test.YtiiegfkjmnoijaaGreatDoorK12
import Derived.Test.YtiiegfkjmnoijaaGreatDoorK3
import Derived.Test.YtiiegfkjmnoijaaGreatDoorK5
import Derived.Test.YtiiegfkjmnoijaaGreatDoorK8
import Derived.Test.YtiiegfkjmnoijaaGreatDoorProg
import Derived.Test.YtiiegfkjmnoijaaGreatDoorK15
import Derived.Lib.ReplaceLaws
import Derived.Deep.LoopGhost
import Derived.Lib.SlicesS
import Derived.Test.YtiiegfkjmnoijaaGreatDoorK9
import Derived.Test.YtiiegfkjmnoijaaGreatDoorRows
import Derived.LaidLaws
import Derived.OpenShut
set_option linter.all false
set_option maxHeartbeats 128000000
set_option maxRecDepth 100000
section
open Go Go.Proofs AF HY LN
namespace RC
theorem qzM(h:we):ACalls Tryz.prog 82 [.nl] h .nl h:=by
 refine acO qru ?_;simp (disch:=omega) only[qzg,go_sem]
 repeat' first|exact v7|fail
theorem qCO(a:Int)(h:we):ACalls Tryz.prog 79 [qG [a],.int .i64 0] h (qG []) h:=by
 have s1:=λh=>qfh h [a]
 have c1:=λh=>qBI 0 h om
 have z1: ∀g,valL g .len [qG [a]]= .int .i64 1:=λ_=>rfl
 have z2: ∀g,okL g .len [qG [a]]=True:=λ_=>eqt trivial
 have e5:IntKind.u64.wrap 1=1:=by decide
 have e6:IntKind.u64.wrap 0=0:=by decide
 rw[show ((0:Nat):Int)=0 from rfl]at c1;refine acO qxf ?_;simp (disch:=omega) only[qzF,z1,z2,e5,e6,go_sem]
 repeat' first|(refine cA (c1 _) flk ?_;simp (disch:=omega) only[s1,go_sem])|(with_reducible first|intro _|apply aiA)|exact clz|fail
 ·rfl
 refine qr (T:=λ_:Unit=>qX 48 [(7,.osl (h.length+1) 1 1 0 0),(8,.int .i64 0)]) (H:=λ_=>h++ [.emp 1,.mem 1 3 []])
  (inv:=λ_=>True) (m:=λ_=>0) () trivial (Wk.temps ?_) ?_
 ·(simp only[go_sem,qg,qc,qa,qf];try exact wa)
 rintro⟨⟩-K hK;have q1:((0:Int)<0)=False:=wi;simp (disch:=omega) only[go_sem]
 repeat' first|(apply qb;exact rvk;simp only[go_sem])|(with_reducible first|intro _|apply aiA)|exact clz|fail
 exact VLe.sl_eq rfl (λi hi=>absurd hi (nnz _))
theorem qyj{hh:we}{j v:Nat}(a:Int)(cs:wg)(hj:qt j hh=some (.mem v 3 (.int .i64 a::cs))):
  ACalls Tryz.prog 79 [.osl j v 1 0 1,.int .i64 0] hh (qG []) (qo j hh (.emp (v+1))):=by
 have hs:qI hh j=true:=by unfold qI;rw[hj]
 have e1:qaU [j] hh=qo j hh (.emp (v+1)):=by show qo j hh (.emp (qq (qt j hh)+1))=_;rw[hj];rfl
 refine ACalls.frzd [j] (by show (qI hh j&&true)=true;rw[hs];rfl) ?_;rw[e1];refine (qCO a _).le ⟨?_,qi,trivial⟩ (qi);have hc:=qM hj;have e: [j].contains j=true:=by simp
 simp only[go_sem,e,if_true,hc];rw[hj,slOf_mem,ipo ⟨rfl,by simp⟩];refine VLe.sl_eq rfl (λi hi=> ?_);obtain rfl:i=0:=by omega
 rfl
theorem qz3(x:Co)(d:List Dc)(s:Int)(h:we)(hz:qaN x)(hp:kJ SG h)(hg:zQ h frmN frmC)(hd:d.length<=1000000)(ht: ∀o∈d,o.txt.length<=1000)(hN0:vaE x []=0->(rwA x [] d s.toNat).length<=1000000000):
  ACalls Tryz.prog 25 [.agg (coC x),.nl,kB d,.int .i64 s] h (.tup [Sl (esR x [] d s),.int .i64 (esE x [] d s)]) h:=by
 have hu:qdB []:=⟨by simp,λi=>by simp;exact nzl _,λi j=>by simp;exact nzl _,λi j=>by simp;exact nzl _⟩
 have c1:=λl'=>(qmD x [] (h++l') hz hu (hp.app l')).le (args:= [.agg (coC x),.nl]) ⟨qi,qZ,trivial⟩ (qi)
 have zu: ∀g l,valL g .len [zM l]= .int .i64 l.length:=λ_ _=>rfl
 have zv: ∀g l,okL g .len [zM l]=True:=λ_ _=>eqt trivial
 have zu1: ∀g l,valL g .len [strs l]= .int .i64 l.length:=λ_ _=>rfl
 have zv1: ∀g l,okL g .len [strs l]=True:=λ_ _=>eqt trivial
 have hE:esE x [] d s=(if vaE x []≠0 then vaE x [] else if s<0∨(x.sig.length:Int)<=s then 2 else if Ut x [] d≠0 then Ut x [] d else if 1024<(rwA x [] d s.toNat).length then 4 else 0):=rfl;unfold esR
 by_cases g:vaE x []=0
 case neg=>
  have k1:(vaE x []=0)=False:=eqf g;rw[ipo g]at hE;rw[hE,ine g];unfold coC at c1;refine acO Tn ?_;simp (disch:=omega) only[qdy,coC,go_sem]
  repeat' first|(refine cA (c1 _) flk ?_;simp (disch:=omega) only[k1,go_sem])|(apply qb;exact rvk;simp only[go_sem])
  exact VLe.tup ⟨qZ,qi,trivial⟩
 rw[ine (by simpa using g)]at hE;have hN:=hN0 g;simp only[g]at c1;obtain⟨hca,hus,hcv⟩:=qdt g;have ho:=UH hca
 by_cases g2:s<0
 ·have k2:(s<0)=True:=eqt g2;rw[ipo (.inl g2)]at hE;rw[hE,ine (by decide)];unfold coC at c1;refine acO Tn ?_;simp (disch:=omega) only[qdy,coC,go_sem]
  repeat' first|(refine cA (c1 _) flk ?_;simp (disch:=omega) only[k2,go_sem])|(apply qb;exact rvk;simp only[go_sem])
  exact VLe.tup ⟨qZ,qi,trivial⟩
 have k2:(s<0)=False:=eqf g2
 by_cases g3:(x.sig.length:Int)<=s
 ·have k3:((x.sig.length:Int)<=s)=True:=eqt g3;rw[ipo (.inr g3)]at hE;rw[hE,ine (by decide)];unfold coC at c1;refine acO Tn ?_;simp (disch:=omega) only[qdy,coC,go_sem]
  repeat' first|(refine cA (c1 _) flk ?_;simp (disch:=omega) only[k2,k3,zu1,zv1,go_sem])|(apply qb;exact rvk;simp only[go_sem])
  exact VLe.tup ⟨qZ,qi,trivial⟩
 have k3:((x.sig.length:Int)<=s)=False:=eqf g3;rw[ine (λe=>e.elim g2 g3)]at hE;have c2:=λl'=>(qAO x [] d (h++l') hz hu (hp.app l') hg.app hca hd ht).le (args:= [.agg (coC x),.nl,kB d]) ⟨qi,qZ,qi,trivial⟩ (qi)
 unfold qx2 at c2
 by_cases g4:Ut x [] d=0
 case neg=>
  have k4:(Ut x [] d=0)=False:=eqf g4;simp only[ine g4]at c2;rw[ipo g4]at hE;rw[hE,ine g4];unfold coC at c1 c2;refine acO Tn ?_;simp (disch:=omega) only[qdy,coC,go_sem]
  repeat' first|((first|refine cA (c1 _) ?_ ?_|refine cA (c2 _) ?_ ?_);exact flk;simp (disch:=omega) only[k2,k3,k4,zu1,zv1,go_sem])|(apply qb;exact rvk;simp only[go_sem])|with_reducible apply aiA|exact clz|fail
  exact VLe.tup ⟨qZ,qi,trivial⟩
 rw[ine (by simpa using g4)]at hE;simp only[g4,if_true]at c2;rw[hE];unfold coC at c1 c2;refine acO Tn ?_;simp (disch:=omega) only[qdy,coC,go_sem]
 repeat' first|((first|refine cA (c1 _) ?_ ?_|refine cA (c2 _) ?_ ?_);exact flk;simp (disch:=omega) only[k2,k3,zu1,zv1,go_sem])|with_reducible apply aiA|exact clz|fail
 have hd0:d= []:=by
  cases d with
  |nil=>rfl
  |cons o r=>
   exfalso
   have:=g4
   unfold Ut at this;split at this
   ·cases this
   ·have h0:=jJ.1 this 0 (by simp);have h1:=(Tq h0).2.2.2.2.1;have h2:kK x [] ((o::r).getD 0 default)= -1:=rfl;omega
 subst hd0;have zi: ∀g l,valL g .len [qG l]= .int .i64 l.length:=λ_ _=>rfl
 have zj: ∀g l,okL g .len [qG l]=True:=λ_ _=>eqt trivial
 have ePL:(plG x [] [] ([]:List Dc).length).length=0:=rfl;refine qy (qyj (j:=h.length+2) (-1) (List.drop 1 (zS [.int .i64 0] 1)) ?j1) (by exact flk) ?_
 case j1=>simp only[go_sem]
 simp (disch:=omega) only[zi,zj,go_sem];refine qr (T:=λ_:Unit=>qX 154 [(1,.nl),(3,.int .i64 s),(4,.op h.length 1 0),(13,qG []),(56,.int .i64 0),(57,.int .i64 0)])
  (H:=λ_=>h++ [.mem 1 26 [.str x.sec,strs x.sig,qm x.tok,qw x.col],.emp 1,.emp 2,.emp 0,.emp 0,.emp 0,.emp 0,.emp 0,.emp 0,.emp 0,.emp 0,.emp 0,.emp 0,.emp 0,.emp 0,.emp 0])
  (inv:=λ_=>True) (m:=λ_=>0) () trivial (Wk.temps ?_) ?_
 ·(simp only[go_sem,qg,qc,qa,qf];try exact wa)
 rintro⟨⟩-K hK;have q1:((0:Int)<0)=False:=wi;simp (disch:=omega) only[q1,go_sem];refine⟨_,_,Wk.ownNil (j:=h.length+3) (i:=0) (k:=h.length+15) (v:=1) (ty:=29) (cs:= [.nl]) (ve:=0) (sz:=7) ?m1 rfl ?m2,?_⟩
 case m1=>simp only[go_sem]
 case m2=>simp only[go_sem]
 simp (disch:=omega) only[List.set_cons_zero,go_sem];have bne5:(h.length+6 !=h.length+5)=true:=by simp
 have zc: ∀g l,valL g .len [qw l]= .int .i64 l.length:=λ_ _=>rfl
 have zd: ∀g l,okL g .len [qw l]=True:=λ_ _=>eqt trivial
 refine kh ?T ?H ?h1 ?h2
 case h1=>
  simp (disch:=omega) only[zc,zd,go_sem]
  repeat' first|(with_reducible apply aiA)|(refine qy (qzM _) (by exact flk) ?_;simp (disch:=omega) only[zc,zd,go_sem])
  all_goals first
   |omega
   |rfl
   |exact bne5
 case h2=>
 simp (disch:=omega) only[go_sem];obtain⟨S,hS⟩: ∃S:Nat,s=S:=⟨s.toNat,om⟩
 subst hS;rw[itn]at hN ⊢;have hSl:S<x.sig.length:=by omega
 obtain⟨MC,hMC⟩:=wc ( [AV.int .i64 x.col.length,.int .i64 x.col.length,.nl])
 rw[<-hMC];obtain⟨O5,hO5⟩:=wc (AObj.mem 1 64 (AV.int .i64 x.col.length:: .int .i64 x.col.length:: .nl::List.drop 3 (zS [.int .i64 0,.int .i64 0,.nl] 1)))
 rw[<-hO5];obtain⟨X0,hX0⟩:=wc (AObj.mem 1 26 [.str x.sec,strs x.sig,qm x.tok,qw x.col])
 have lX0: ∀n,lowO n X0:=by
  intro n;rw[hX0];intro c hc;simp at hc;rcases hc with rfl|rfl|rfl|rfl<;>rfl
 refine qr (T:=λi:EsS=>qX 154 [(1,.nl),(3,.int .i64 (S:Int)),(4,.op h.length 1 0),(13,qG []),(16,.op (h.length+3) 1 0),(17,.op (h.length+4) 1 0),(18,.int .i64 (nxT x [] i.k:Int)),(78,.osl (h.length+6) 1 3 0 1),(79,.int .i64 1),(80,.int .i64 i.k)])
  (H:=λi=>h++ [.mem 1 26 [.str x.sec,strs x.sig,qm x.tok,qw x.col],.emp 1,.emp 2,.mem 1 29 [.osl (h.length+15) i.vb 7 0 (rwK x [] [] S i.k).length],.mem 1 121 [.fn (.func 80) [] [.op (h.length+3) 1 0]],O5,.mem 1 64 MC,i.O7,i.O8,i.O9,i.O10,i.O11,i.O12,.emp 0,.emp 0,ze i.vb 36 (jv (bsW (rwK x [] [] S i.k)))])
  (inv:=λi=>i.k<=1∧ ∀O∈ [i.O7,i.O8,i.O9,i.O10,i.O11,i.O12],qI [O] 0=true∧ ∀n,lowO n O) (m:=λi=>1-i.k) ⟨0,0,.emp 0,.emp 0,.emp 0,.emp 0,.emp 0,.emp 0⟩ ⟨nzl _,λO hO=>by
   simp at hO;subst hO;exact⟨rfl,λ_=>trivial⟩⟩ (Wk.temps ?_) ?_
 ·(simp only[go_sem,qg,qc,qa,qf];try (repeat' first|(with_reducible apply aiA)|(apply qh;omega)|(apply qd;rfl)|exact qi))
  done
 rintro⟨k,vb,O7,O8,O9,O10,O11,O12⟩ ⟨i1,i2⟩ K hK;simp only at i1 i2 hK;obtain⟨s7,l7⟩:=i2 O7 (by simp);obtain⟨s8,l8⟩:=i2 O8 (by simp);obtain⟨s9,l9⟩:=i2 O9 (by simp);obtain⟨s10,l10⟩:=i2 O10 (by simp);obtain⟨s11,l11⟩:=i2 O11 (by simp);obtain⟨s12,l12⟩:=i2 O12 (by simp);have s7': ∀m,qI (O7::m) 0=true:=λ_=>s7
 have s8': ∀m,qI (O8::m) 0=true:=λ_=>s8
 by_cases hk:k<=0
 case neg=>
  have q1:((k:Int)<(1:Int))=False:=wi;have eR:rwK x [] [] S k=rwA x [] [] S:=by unfold rwK;rw[lnl,ine hk]
  rw[eR]
  by_cases g5:1024<(rwA x [] [] S).length
  ·have q5:((1024:Int)<(rwA x [] [] S).length)=True:=wh;simp only[ipo g5];simp (disch:=omega) only[q1,q5,go_sem]
   repeat' first|(apply qb;exact rvk;simp only[go_sem])|with_reducible apply aiA|exact clz|fail
   exact VLe.tup ⟨qZ,qi,trivial⟩
  ·have q5:((1024:Int)<(rwA x [] [] S).length)=False:=wi;simp only[ine g5];simp (disch:=omega) only[q1,q5,go_sem]
   repeat' first|(apply qb;exact rvk;simp only[go_sem])|with_reducible apply aiA|exact clz|fail
   exact VLe.tup ⟨qb6 (kX _).symm,qi,trivial⟩
 have q1:((k:Int)<(1:Int))=True:=wh;have q2:(0<=(k:Int))=True:=wh;have hk0:k=0:=by omega
 have hMl:MC.length=3:=by rw[hMC];rfl
 have q3:(k*3+3<=MC.length)=True:=wh;have eR:rwK x [] [] S k=rwL x [] [] S k:=by unfold rwK;rw[lnl,ipo hk]
 have eN:nxT x [] k=ju [] k:=by unfold nxT;rw[lnl,ipo hk]
 rw[eR,eN];obtain⟨f,hf⟩:=wc x.col.length
 obtain⟨t',ht'⟩:=wc x.col.length
 obtain⟨RV,hRV⟩:=wc AV.nl
 have eM:List.take 3 (List.drop (k*3) MC)= [.int .i64 (f:Int),.int .i64 (t':Int),RV]:=by rw[hk0,hMC,hf,ht',hRV];rfl
 have a5:ju [] k<=f:=by rw[hk0];exact nzl _
 have a6:f<=x.col.length:=by omega
 have lRV: ∀n,qR n RV=true:=λn=>by rw[hRV];rfl
 have c3:=λh=>qyy x (ju [] k) f S h
 have hit:=itS x S (ju [] k) f hz ho hSl a6 a5;have hpF:=SH ho hSl (f:=ju [] k) (d:=f-ju [] k) om;obtain⟨ps,hps⟩:=wc (spk x S (ju [] k) (f-ju [] k))
 have hxl:(spX x S (ju [] k) (f-ju [] k))=ps.map λp=> [.agg (pcC p)]:=by unfold spX;rw[hps]
 rw[hxl]at hit;rw[<-hps]at hpF;unfold coC at c3 hit;simp (disch:=omega) only[q1,q2,q3,eM,s7',s8',go_sem]
 repeat' first|(refine cA (c3 _) flk ?_;simp (disch:=omega) only[go_sem])|with_reducible apply aiA|exact clz|fail
 obtain⟨L0,hL0⟩:=wc (rwL x [] [] S k)
 have hLF: ∀r∈L0,PcF r.p:=by rw[hL0];exact qdW ho hus hSl (λi hi=>absurd hi (by simp)) hk
 have hLn:(L0++rwM ps (-1) (-1)).length<=1000000000:=by
  refine Nat.le_trans ?_ hN;rw[hL0,hps,hf,hk0];exact nlr _
 rw[<-hL0];obtain⟨P7,hP7⟩:=wc (AObj.mem (qq (some O7)+1) 3 [.int .i64 (k:Int)])
 obtain⟨P8,hP8⟩:=wc (AObj.mem (qq (some O8)+1) 64 [.int .i64 (f:Int),.int .i64 (t':Int),RV])
 have hP7l:qI [P7] 0=true∧ ∀n,lowO n P7:=by
  rw[hP7];refine⟨rfl,λn c hc=> ?_⟩;rw[List.mem_singleton]at hc;subst hc;rfl
 have hP8l:qI [P8] 0=true∧ ∀n,lowO n P8:=by
  rw[hP8];refine⟨rfl,λn c hc=> ?_⟩;simp only[List.mem_cons,List.not_mem_nil,or_false]at hc;rcases hc with rfl|rfl|rfl
  ·rfl
  ·rfl
  ·exact lRV n
 have cP7: ∀m,cellsOf (P7::m) 0 (qq (some O7)+1)=some [.int .i64 (k:Int)]:=λm=>by rw[hP7];simp only[go_sem]
 rw[<-hP7,<-hP8];have lP: ∀L:List Rw,∀v n,lowO n (ze v 36 (jv (bsW L))):=λL v n=>jp (qam _ n)
 have hLow: ∀(L M:List Rw) (v w:Nat) O A,(∀n,lowO n A)->LowI (h++ [.mem 1 26 [.str x.sec,strs x.sig,qm x.tok,qw x.col],.emp 1,.emp 2,.mem 1 29 [.osl (h.length+15) w 7 0 M.length],.mem 1 121 [.fn (.func 80) [] [.op (h.length+3) 1 0]],O5,.mem 1 64 MC,P7,P8,O,O10,O11,O12,.emp 0,.emp 0,ze w 36 (jv (bsW M))])
   (h++ [.mem 1 26 [.str x.sec,strs x.sig,qm x.tok,qw x.col],.emp 1,.emp 2,.mem 1 29 [.osl (h.length+15) v 7 0 L.length],.mem 1 121 [.fn (.func 80) [] [.op (h.length+3) 1 0]],O5,.mem 1 64 MC,P7,P8,A,O10,O11,O12,.emp 0,.emp 0,ze v 36 (jv (bsW L))]):=λL M v w O A lA=>by
  refine⟨by simp,λo ho=> ?_⟩;rcases List.mem_append.1 ho with h1|h1
  ·exact .inl (List.mem_append_left _ h1)
  ·simp only[List.mem_cons,List.not_mem_nil,or_false]at h1;rcases h1 with rfl|rfl|rfl|rfl|rfl|rfl|rfl|rfl|rfl|rfl|rfl|rfl|rfl|rfl|rfl|rfl
   ·left;simp
   ·left;simp
   ·left;simp
   ·right;refine⟨λc hc=> ?_,λc hc=> ?_⟩<;>
    ·rw[List.mem_singleton]at hc;subst hc;simp[qR]
     try omega
   ·left;simp
   ·left;simp
   ·left;simp
   ·left;simp
   ·left;simp
   ·right;exact⟨lA _,lA _⟩
   ·left;simp
   ·left;simp
   ·left;simp
   ·left;simp
   ·left;simp
   ·right;exact⟨lP _ _ _,lP _ _ _⟩
 refine zg hit (λa ha=> ?_)
  (S:=λi hh=> ∃A,qI [A] 0=true∧(∀n,lowO n A)∧hh=h++ [.mem 1 26 [.str x.sec,strs x.sig,qm x.tok,qw x.col],.emp 1,.emp 2,.mem 1 29 [.osl (h.length+15) (vb+i) 7 0 (L0++rwM (ps.take i) (-1) (-1)).length],.mem 1 121 [.fn (.func 80) [] [.op (h.length+3) 1 0]],O5,.mem 1 64 MC,P7,P8,A,O10,O11,O12,.emp 0,.emp 0,ze (vb+i) 36 (jv (bsW (L0++rwM (ps.take i) (-1) (-1))))]) (E:=λ_ _=>False) ?_ ?_ ?_ ?_ ?_ ?_ ?_
 ·obtain⟨c,_,rfl⟩:=List.mem_map.1 ha;rfl
 ·rintro i hh ⟨A,_,lA,rfl⟩;exact hLow _ _ _ _ _ _ lA
 ·intro s hh hf;exact hf.elim
 ·exact⟨O9,s9,l9,by simp[rwM]⟩
 ·simp[qR,qR.lowVs]
  repeat' apply aiA
  all_goals first|rfl|omega|exact lRV _
 ·rintro i hh tl LI TS hi ⟨A,sA,lA,rfl⟩ hlen K1 K2 hK1 hN1 hR1 hX1;have hi':i<ps.length:=by rw[List.length_map]at hi;exact hi
  rw[List.getElem_map];have sA': ∀m,qI (A::m) 0=true:=λ_=>sA
  have hS:L0++rwM (ps.take (i+1)) (-1) (-1)=(L0++rwM (ps.take i) (-1) (-1))++ [⟨ps.getD i default,-1,-1⟩]:=by
   unfold rwM;rw[List.take_add_one,zG hi',List.map_append,gdqA,zG hi',List.append_assoc];rfl
  have eG:ps[i]=ps.getD i default:=by rw[gdqA,zG hi'];rfl
  rw[eG];have hpm:ps.getD i default∈ps:=jc hi';obtain⟨p,hp'⟩:=wc (ps.getD i default)
  rw[<-hp']at hS hpm ⊢;obtain⟨M,hM⟩:=wc (L0++rwM (ps.take i) (-1) (-1))
  have hMF: ∀r∈M,PcF r.p:=λr hr=>by
   rw[hM]at hr;rcases List.mem_append.1 hr with hr|hr
   ·exact hLF r hr
   ·exact hpF _ (List.mem_of_mem_take (jL.1 hr).1)
  have hMn:M.length<=1000000000:=by
   rw[hM,lap,jD,List.length_take];rw[lap,jD]at hLn;omega
  rw[<-hM]at hS ⊢;simp only[kr,List.append_assoc,lca,lna];simp (disch:=omega) only[sA',pcC,tkC,go_sem];refine hK1 _ _ (h++ [.mem 1 26 [.str x.sec,strs x.sig,qm x.tok,qw x.col],.emp 1,.emp 2,.mem 1 29 [.osl (h.length+15) (vb+i) 7 0 M.length],.mem 1 121 [.fn (.func 80) [] [.op (h.length+3) 1 0]],O5,.mem 1 64 MC,P7,P8,(.mem (qq (some A)+1) 120 (pcC p)),O10,O11,O12,.emp 0,.emp 0,ze (vb+i) 36 (jv (bsW M))]) ?_ ?_ ?_
  ·simp[pcC,tkC]
  ·simp
  ·simp only[List.append_assoc,lca,lna];simp (disch:=omega) only[pcC,tkC,go_sem]
   repeat' first|with_reducible apply aiA|exact clz|fail
   refine kg (qt2 (a:=h.length+3) (b:=h.length+15) (c:=h.length) (va:=1) (vb:=vb+i) (Z:= .mem 1 26 [.str x.sec,strs x.sig,qm x.tok,qw x.col]) ⟨by simp,by simp,by simp,om,om,om⟩ M p (-1) (-1) (by simp only[go_sem]) (by simp only[go_sem]) (by simp only[go_sem]) (by rw[<-hX0];exact lX0) (hpF p hpm) hMn hMF) ?_;simp (disch:=omega) only[go_sem];refine hN1 _ _ (h++ [.mem 1 26 [.str x.sec,strs x.sig,qm x.tok,qw x.col],.emp 1,.emp 2,.mem 1 29 [.osl (h.length+15) (vb+(i+1)) 7 0 (M++ [(⟨p,-1,-1⟩:Rw)]).length],.mem 1 121 [.fn (.func 80) [] [.op (h.length+3) 1 0]],O5,.mem 1 64 MC,P7,P8,(.mem (qq (some A)+1) 120 (pcC p)),O10,O11,O12,.emp 0,.emp 0,ze (vb+(i+1)) 36 (jv (bsW (M++ [(⟨p,-1,-1⟩:Rw)])))]) ?_ ?_ ⟨_,rfl,?_,by rw[hS]⟩
   ·simp[pcC,tkC,Nat.add_assoc]
   ·simp
   ·intro n c hc;simp[pcC,tkC]at hc;rcases hc with rfl|rfl|rfl|rfl|rfl|rfl|rfl<;>rfl
 ·rintro hh ⟨A,sA,lA,rfl⟩;rw[List.length_map,List.take_length];obtain⟨L1,hL1⟩:=wc (L0++rwM ps (-1) (-1))
  rw[<-hL1]
  by_cases hkl:k<0
  case neg=>
   have hke:k=0:=by omega
   obtain⟨b1,b2⟩:f=x.col.length∧t'=x.col.length:=⟨hf,ht'⟩
   have q4:((k:Int)=0)=True:=wh;rw[hP7,hP8];simp (disch:=omega) only[q4,go_sem]
   repeat' first|with_reducible apply aiA|exact clz|fail
   rw[<-hP7,<-hP8];have e1:rwK x [] [] S (k+1)=L1:=by
    unfold rwK;rw[ine (by simp),hL1,hL0,hps,b1,hke];rfl
   have e2:nxT x [] (k+1)=t':=by unfold nxT;rw[ine (by simp),b2]
   refine hK _ _ ⟨k+1,vb+ps.length,P7,P8,A,O10,O11,O12⟩ ⟨by simp only;omega,λO hO=> ?_⟩ (by simp only;omega) ?_
   ·simp only[List.mem_cons,List.not_mem_nil,or_false]at hO;rcases hO with rfl|rfl|rfl|rfl|rfl|rfl
    ·exact hP7l
    ·exact hP8l
    ·exact⟨sA,lA⟩
    ·exact⟨s10,l10⟩
    ·exact⟨s11,l11⟩
    ·exact⟨s12,l12⟩
   ·simp only[e1,e2];refine Wk.temps ?_
    (simp only[go_sem,qg,qc,qa,qf];try (repeat' first|(with_reducible apply aiA)|(apply qh;omega)|(apply qd;rfl)|exact qi))
  exact absurd hkl (nnz k)
 ·intro e hh hf;exact hf.elim
theorem qzN(h:we)(k:Nat)(hk:qI h k=true):ACalls Tryz.prog 82 [.el] h (.osl k (qq (qt k h)+1) 3 0 0) (qo k h (.mem (qq (qt k h)+1) 64 [])):=by
 refine qdC qru k (by simp) ?_;simp only[lco,lnl,Nat.reduceAdd,Nat.reduceSub,List.replicate,lca,lna];simp (disch:=omega) only[qzg,go_sem]
 repeat' first|(with_reducible apply aiA)
 all_goals first
  |omega
  |contradiction
  |skip
 all_goals try rfl
 exact⟨h.length+1,2,3,0,0,64,[],_,⟨trivial,trivial⟩,rfl,rfl,om,by simp only[go_sem],(λc hc=>by cases hc),hk,rfl,rfl⟩
theorem qz4(x:Co)(d:List Dc)(s:Int)(h:we)(hz:qaN x)(hp:kJ SG h)(hg:zQ h frmN frmC)(hd:d.length<=1000000)(ht: ∀o∈d,o.txt.length<=1000)(hN0:vaE x []=0->(rwA x [] d s.toNat).length<=1000000000):
  ACalls Tryz.prog 25 [.agg (coC x),.el,kB d,.int .i64 s] h (.tup [Sl (esR x [] d s),.int .i64 (esE x [] d s)]) h:=by
 have hu:qdB []:=⟨by simp,λi=>by simp;exact nzl _,λi j=>by simp;exact nzl _,λi j=>by simp;exact nzl _⟩
 have c1:=λl'=>(qmD x [] (h++l') hz hu (hp.app l')).le (args:= [.agg (coC x),.el]) ⟨qi,qpi,trivial⟩ (qi)
 have zu: ∀g l,valL g .len [zM l]= .int .i64 l.length:=λ_ _=>rfl
 have zv: ∀g l,okL g .len [zM l]=True:=λ_ _=>eqt trivial
 have zu1: ∀g l,valL g .len [strs l]= .int .i64 l.length:=λ_ _=>rfl
 have zv1: ∀g l,okL g .len [strs l]=True:=λ_ _=>eqt trivial
 have hE:esE x [] d s=(if vaE x []≠0 then vaE x [] else if s<0∨(x.sig.length:Int)<=s then 2 else if Ut x [] d≠0 then Ut x [] d else if 1024<(rwA x [] d s.toNat).length then 4 else 0):=rfl;unfold esR
 by_cases g:vaE x []=0
 case neg=>
  have k1:(vaE x []=0)=False:=eqf g;rw[ipo g]at hE;rw[hE,ine g];unfold coC at c1;refine acO Tn ?_;simp (disch:=omega) only[qdy,coC,go_sem]
  repeat' first|(refine cA (c1 _) flk ?_;simp (disch:=omega) only[k1,go_sem])|(apply qb;exact rvk;simp only[go_sem])
  exact VLe.tup ⟨qZ,qi,trivial⟩
 rw[ine (by simpa using g)]at hE;have hN:=hN0 g;simp only[g]at c1;obtain⟨hca,hus,hcv⟩:=qdt g;have ho:=UH hca
 by_cases g2:s<0
 ·have k2:(s<0)=True:=eqt g2;rw[ipo (.inl g2)]at hE;rw[hE,ine (by decide)];unfold coC at c1;refine acO Tn ?_;simp (disch:=omega) only[qdy,coC,go_sem]
  repeat' first|(refine cA (c1 _) flk ?_;simp (disch:=omega) only[k2,go_sem])|(apply qb;exact rvk;simp only[go_sem])
  exact VLe.tup ⟨qZ,qi,trivial⟩
 have k2:(s<0)=False:=eqf g2
 by_cases g3:(x.sig.length:Int)<=s
 ·have k3:((x.sig.length:Int)<=s)=True:=eqt g3;rw[ipo (.inr g3)]at hE;rw[hE,ine (by decide)];unfold coC at c1;refine acO Tn ?_;simp (disch:=omega) only[qdy,coC,go_sem]
  repeat' first|(refine cA (c1 _) flk ?_;simp (disch:=omega) only[k2,k3,zu1,zv1,go_sem])|(apply qb;exact rvk;simp only[go_sem])
  exact VLe.tup ⟨qZ,qi,trivial⟩
 have k3:((x.sig.length:Int)<=s)=False:=eqf g3;rw[ine (λe=>e.elim g2 g3)]at hE;have c2:=λl'=>(qAO x [] d (h++l') hz hu (hp.app l') hg.app hca hd ht).le (args:= [.agg (coC x),.el,kB d]) ⟨qi,qpi,qi,trivial⟩ (qi)
 unfold qx2 at c2
 by_cases g4:Ut x [] d=0
 case neg=>
  have k4:(Ut x [] d=0)=False:=eqf g4;simp only[ine g4]at c2;rw[ipo g4]at hE;rw[hE,ine g4];unfold coC at c1 c2;refine acO Tn ?_;simp (disch:=omega) only[qdy,coC,go_sem]
  repeat' first|((first|refine cA (c1 _) ?_ ?_|refine cA (c2 _) ?_ ?_);exact flk;simp (disch:=omega) only[k2,k3,k4,zu1,zv1,go_sem])|(apply qb;exact rvk;simp only[go_sem])|with_reducible apply aiA|exact clz|fail
  exact VLe.tup ⟨qZ,qi,trivial⟩
 rw[ine (by simpa using g4)]at hE;simp only[g4,if_true]at c2;rw[hE];unfold coC at c1 c2;refine acO Tn ?_;simp (disch:=omega) only[qdy,coC,go_sem]
 repeat' first|((first|refine cA (c1 _) ?_ ?_|refine cA (c2 _) ?_ ?_);exact flk;simp (disch:=omega) only[k2,k3,zu1,zv1,go_sem])|with_reducible apply aiA|exact clz|fail
 have hd0:d= []:=by
  cases d with
  |nil=>rfl
  |cons o r=>
   exfalso
   have:=g4
   unfold Ut at this;split at this
   ·cases this
   ·have h0:=jJ.1 this 0 (by simp);have h1:=(Tq h0).2.2.2.2.1;have h2:kK x [] ((o::r).getD 0 default)= -1:=rfl;omega
 subst hd0;have zi: ∀g l,valL g .len [qG l]= .int .i64 l.length:=λ_ _=>rfl
 have zj: ∀g l,okL g .len [qG l]=True:=λ_ _=>eqt trivial
 have ePL:(plG x [] [] ([]:List Dc).length).length=0:=rfl;refine qy (qyj (j:=h.length+2) (-1) (List.drop 1 (zS [.int .i64 0] 1)) ?j1) (by exact flk) ?_
 case j1=>simp only[go_sem]
 simp (disch:=omega) only[zi,zj,go_sem];refine qr (T:=λ_:Unit=>qX 154 [(1,.el),(3,.int .i64 s),(4,.op h.length 1 0),(13,qG []),(56,.int .i64 0),(57,.int .i64 0)])
  (H:=λ_=>h++ [.mem 1 26 [.str x.sec,strs x.sig,qm x.tok,qw x.col],.emp 1,.emp 2,.emp 0,.emp 0,.emp 0,.emp 0,.emp 0,.emp 0,.emp 0,.emp 0,.emp 0,.emp 0,.emp 0,.emp 0,.emp 0])
  (inv:=λ_=>True) (m:=λ_=>0) () trivial (Wk.temps ?_) ?_
 ·(simp only[go_sem,qg,qc,qa,qf];try exact wa)
 rintro⟨⟩-K hK;have q1:((0:Int)<0)=False:=wi;simp (disch:=omega) only[q1,go_sem];refine⟨_,_,Wk.ownNil (j:=h.length+3) (i:=0) (k:=h.length+15) (v:=1) (ty:=29) (cs:= [.nl]) (ve:=0) (sz:=7) ?m1 rfl ?m2,?_⟩
 case m1=>simp only[go_sem]
 case m2=>simp only[go_sem]
 simp (disch:=omega) only[List.set_cons_zero,go_sem];have bne5:(h.length+14 !=h.length+5)=true:=by simp
 have zc: ∀g l,valL g .len [qw l]= .int .i64 l.length:=λ_ _=>rfl
 have zd: ∀g l,okL g .len [qw l]=True:=λ_ _=>eqt trivial
 refine kh ?T ?H ?h1 ?h2
 case h1=>
  simp (disch:=omega) only[zc,zd,go_sem]
  repeat' first|(with_reducible apply aiA)|(refine qy (qzN _ (h.length+14) (by simp only[go_sem])) (by exact flk) ?_;simp (disch:=omega) only[zc,zd,go_sem])
  all_goals first
   |omega
   |rfl
   |exact bne5
 case h2=>
 simp (disch:=omega) only[go_sem];obtain⟨S,hS⟩: ∃S:Nat,s=S:=⟨s.toNat,om⟩
 subst hS;rw[itn]at hN ⊢;have hSl:S<x.sig.length:=by omega
 obtain⟨MC,hMC⟩:=wc ( [AV.int .i64 x.col.length,.int .i64 x.col.length,.nl])
 rw[<-hMC];obtain⟨O5,hO5⟩:=wc (AObj.mem 1 64 (AV.int .i64 x.col.length:: .int .i64 x.col.length:: .nl::List.drop 3 (zS [.int .i64 0,.int .i64 0,.nl] 1)))
 rw[<-hO5];obtain⟨X0,hX0⟩:=wc (AObj.mem 1 26 [.str x.sec,strs x.sig,qm x.tok,qw x.col])
 have lX0: ∀n,lowO n X0:=by
  intro n;rw[hX0];intro c hc;simp at hc;rcases hc with rfl|rfl|rfl|rfl<;>rfl
 refine qr (T:=λi:EsS=>qX 154 [(1,.el),(3,.int .i64 (S:Int)),(4,.op h.length 1 0),(13,qG []),(16,.op (h.length+3) 1 0),(17,.op (h.length+4) 1 0),(18,.int .i64 (nxT x [] i.k:Int)),(78,.osl (h.length+14) 2 3 0 1),(79,.int .i64 1),(80,.int .i64 i.k)])
  (H:=λi=>h++ [.mem 1 26 [.str x.sec,strs x.sig,qm x.tok,qw x.col],.emp 1,.emp 2,.mem 1 29 [.osl (h.length+15) i.vb 7 0 (rwK x [] [] S i.k).length],.mem 1 121 [.fn (.func 80) [] [.op (h.length+3) 1 0]],O5,.emp 0,i.O7,i.O8,i.O9,i.O10,i.O11,i.O12,.emp 0,.mem 2 64 MC,ze i.vb 36 (jv (bsW (rwK x [] [] S i.k)))])
  (inv:=λi=>i.k<=1∧ ∀O∈ [i.O7,i.O8,i.O9,i.O10,i.O11,i.O12],qI [O] 0=true∧ ∀n,lowO n O) (m:=λi=>1-i.k) ⟨0,0,.emp 0,.emp 0,.emp 0,.emp 0,.emp 0,.emp 0⟩ ⟨nzl _,λO hO=>by
   simp at hO;subst hO;exact⟨rfl,λ_=>trivial⟩⟩ (Wk.temps ?_) ?_
 ·(simp only[go_sem,qg,qc,qa,qf];try (repeat' first|(with_reducible apply aiA)|(apply qh;omega)|(apply qd;rfl)|exact qi))
  done
 rintro⟨k,vb,O7,O8,O9,O10,O11,O12⟩ ⟨i1,i2⟩ K hK;simp only at i1 i2 hK;obtain⟨s7,l7⟩:=i2 O7 (by simp);obtain⟨s8,l8⟩:=i2 O8 (by simp);obtain⟨s9,l9⟩:=i2 O9 (by simp);obtain⟨s10,l10⟩:=i2 O10 (by simp);obtain⟨s11,l11⟩:=i2 O11 (by simp);obtain⟨s12,l12⟩:=i2 O12 (by simp);have s7': ∀m,qI (O7::m) 0=true:=λ_=>s7
 have s8': ∀m,qI (O8::m) 0=true:=λ_=>s8
 by_cases hk:k<=0
 case neg=>
  have q1:((k:Int)<(1:Int))=False:=wi;have eR:rwK x [] [] S k=rwA x [] [] S:=by unfold rwK;rw[lnl,ine hk]
  rw[eR]
  by_cases g5:1024<(rwA x [] [] S).length
  ·have q5:((1024:Int)<(rwA x [] [] S).length)=True:=wh;simp only[ipo g5];simp (disch:=omega) only[q1,q5,go_sem]
   repeat' first|(apply qb;exact rvk;simp only[go_sem])|with_reducible apply aiA|exact clz|fail
   exact VLe.tup ⟨qZ,qi,trivial⟩
  ·have q5:((1024:Int)<(rwA x [] [] S).length)=False:=wi;simp only[ine g5];simp (disch:=omega) only[q1,q5,go_sem]
   repeat' first|(apply qb;exact rvk;simp only[go_sem])|with_reducible apply aiA|exact clz|fail
   exact VLe.tup ⟨qb6 (kX _).symm,qi,trivial⟩
 have q1:((k:Int)<(1:Int))=True:=wh;have q2:(0<=(k:Int))=True:=wh;have hk0:k=0:=by omega
 have hMl:MC.length=3:=by rw[hMC];rfl
 have q3:(k*3+3<=MC.length)=True:=wh;have eR:rwK x [] [] S k=rwL x [] [] S k:=by unfold rwK;rw[lnl,ipo hk]
 have eN:nxT x [] k=ju [] k:=by unfold nxT;rw[lnl,ipo hk]
 rw[eR,eN];obtain⟨f,hf⟩:=wc x.col.length
 obtain⟨t',ht'⟩:=wc x.col.length
 obtain⟨RV,hRV⟩:=wc AV.nl
 have eM:List.take 3 (List.drop (k*3) MC)= [.int .i64 (f:Int),.int .i64 (t':Int),RV]:=by rw[hk0,hMC,hf,ht',hRV];rfl
 have a5:ju [] k<=f:=by rw[hk0];exact nzl _
 have a6:f<=x.col.length:=by omega
 have lRV: ∀n,qR n RV=true:=λn=>by rw[hRV];rfl
 have c3:=λh=>qyy x (ju [] k) f S h
 have hit:=itS x S (ju [] k) f hz ho hSl a6 a5;have hpF:=SH ho hSl (f:=ju [] k) (d:=f-ju [] k) om;obtain⟨ps,hps⟩:=wc (spk x S (ju [] k) (f-ju [] k))
 have hxl:(spX x S (ju [] k) (f-ju [] k))=ps.map λp=> [.agg (pcC p)]:=by unfold spX;rw[hps]
 rw[hxl]at hit;rw[<-hps]at hpF;unfold coC at c3 hit;simp (disch:=omega) only[q1,q2,q3,eM,s7',s8',go_sem]
 repeat' first|(refine cA (c3 _) flk ?_;simp (disch:=omega) only[go_sem])|with_reducible apply aiA|exact clz|fail
 obtain⟨L0,hL0⟩:=wc (rwL x [] [] S k)
 have hLF: ∀r∈L0,PcF r.p:=by rw[hL0];exact qdW ho hus hSl (λi hi=>absurd hi (by simp)) hk
 have hLn:(L0++rwM ps (-1) (-1)).length<=1000000000:=by
  refine Nat.le_trans ?_ hN;rw[hL0,hps,hf,hk0];exact nlr _
 rw[<-hL0];obtain⟨P7,hP7⟩:=wc (AObj.mem (qq (some O7)+1) 3 [.int .i64 (k:Int)])
 obtain⟨P8,hP8⟩:=wc (AObj.mem (qq (some O8)+1) 64 [.int .i64 (f:Int),.int .i64 (t':Int),RV])
 have hP7l:qI [P7] 0=true∧ ∀n,lowO n P7:=by
  rw[hP7];refine⟨rfl,λn c hc=> ?_⟩;rw[List.mem_singleton]at hc;subst hc;rfl
 have hP8l:qI [P8] 0=true∧ ∀n,lowO n P8:=by
  rw[hP8];refine⟨rfl,λn c hc=> ?_⟩;simp only[List.mem_cons,List.not_mem_nil,or_false]at hc;rcases hc with rfl|rfl|rfl
  ·rfl
  ·rfl
  ·exact lRV n
 have cP7: ∀m,cellsOf (P7::m) 0 (qq (some O7)+1)=some [.int .i64 (k:Int)]:=λm=>by rw[hP7];simp only[go_sem]
 rw[<-hP7,<-hP8];have lP: ∀L:List Rw,∀v n,lowO n (ze v 36 (jv (bsW L))):=λL v n=>jp (qam _ n)
 have hLow: ∀(L M:List Rw) (v w:Nat) O A,(∀n,lowO n A)->LowI (h++ [.mem 1 26 [.str x.sec,strs x.sig,qm x.tok,qw x.col],.emp 1,.emp 2,.mem 1 29 [.osl (h.length+15) w 7 0 M.length],.mem 1 121 [.fn (.func 80) [] [.op (h.length+3) 1 0]],O5,.emp 0,P7,P8,O,O10,O11,O12,.emp 0,.mem 2 64 MC,ze w 36 (jv (bsW M))])
   (h++ [.mem 1 26 [.str x.sec,strs x.sig,qm x.tok,qw x.col],.emp 1,.emp 2,.mem 1 29 [.osl (h.length+15) v 7 0 L.length],.mem 1 121 [.fn (.func 80) [] [.op (h.length+3) 1 0]],O5,.emp 0,P7,P8,A,O10,O11,O12,.emp 0,.mem 2 64 MC,ze v 36 (jv (bsW L))]):=λL M v w O A lA=>by
  refine⟨by simp,λo ho=> ?_⟩;rcases List.mem_append.1 ho with h1|h1
  ·exact .inl (List.mem_append_left _ h1)
  ·simp only[List.mem_cons,List.not_mem_nil,or_false]at h1;rcases h1 with rfl|rfl|rfl|rfl|rfl|rfl|rfl|rfl|rfl|rfl|rfl|rfl|rfl|rfl|rfl|rfl
   ·left;simp
   ·left;simp
   ·left;simp
   ·right;refine⟨λc hc=> ?_,λc hc=> ?_⟩<;>
    ·rw[List.mem_singleton]at hc;subst hc;simp[qR]
     try omega
   ·left;simp
   ·left;simp
   ·left;simp
   ·left;simp
   ·left;simp
   ·right;exact⟨lA _,lA _⟩
   ·left;simp
   ·left;simp
   ·left;simp
   ·left;simp
   ·left;simp
   ·right;exact⟨lP _ _ _,lP _ _ _⟩
 refine zg hit (λa ha=> ?_)
  (S:=λi hh=> ∃A,qI [A] 0=true∧(∀n,lowO n A)∧hh=h++ [.mem 1 26 [.str x.sec,strs x.sig,qm x.tok,qw x.col],.emp 1,.emp 2,.mem 1 29 [.osl (h.length+15) (vb+i) 7 0 (L0++rwM (ps.take i) (-1) (-1)).length],.mem 1 121 [.fn (.func 80) [] [.op (h.length+3) 1 0]],O5,.emp 0,P7,P8,A,O10,O11,O12,.emp 0,.mem 2 64 MC,ze (vb+i) 36 (jv (bsW (L0++rwM (ps.take i) (-1) (-1))))]) (E:=λ_ _=>False) ?_ ?_ ?_ ?_ ?_ ?_ ?_
 ·obtain⟨c,_,rfl⟩:=List.mem_map.1 ha;rfl
 ·rintro i hh ⟨A,_,lA,rfl⟩;exact hLow _ _ _ _ _ _ lA
 ·intro s hh hf;exact hf.elim
 ·exact⟨O9,s9,l9,by simp[rwM]⟩
 ·simp[qR,qR.lowVs]
  repeat' apply aiA
  all_goals first|rfl|omega|exact lRV _
 ·rintro i hh tl LI TS hi ⟨A,sA,lA,rfl⟩ hlen K1 K2 hK1 hN1 hR1 hX1;have hi':i<ps.length:=by rw[List.length_map]at hi;exact hi
  rw[List.getElem_map];have sA': ∀m,qI (A::m) 0=true:=λ_=>sA
  have hS:L0++rwM (ps.take (i+1)) (-1) (-1)=(L0++rwM (ps.take i) (-1) (-1))++ [⟨ps.getD i default,-1,-1⟩]:=by
   unfold rwM;rw[List.take_add_one,zG hi',List.map_append,gdqA,zG hi',List.append_assoc];rfl
  have eG:ps[i]=ps.getD i default:=by rw[gdqA,zG hi'];rfl
  rw[eG];have hpm:ps.getD i default∈ps:=jc hi';obtain⟨p,hp'⟩:=wc (ps.getD i default)
  rw[<-hp']at hS hpm ⊢;obtain⟨M,hM⟩:=wc (L0++rwM (ps.take i) (-1) (-1))
  have hMF: ∀r∈M,PcF r.p:=λr hr=>by
   rw[hM]at hr;rcases List.mem_append.1 hr with hr|hr
   ·exact hLF r hr
   ·exact hpF _ (List.mem_of_mem_take (jL.1 hr).1)
  have hMn:M.length<=1000000000:=by
   rw[hM,lap,jD,List.length_take];rw[lap,jD]at hLn;omega
  rw[<-hM]at hS ⊢;simp only[kr,List.append_assoc,lca,lna];simp (disch:=omega) only[sA',pcC,tkC,go_sem];refine hK1 _ _ (h++ [.mem 1 26 [.str x.sec,strs x.sig,qm x.tok,qw x.col],.emp 1,.emp 2,.mem 1 29 [.osl (h.length+15) (vb+i) 7 0 M.length],.mem 1 121 [.fn (.func 80) [] [.op (h.length+3) 1 0]],O5,.emp 0,P7,P8,(.mem (qq (some A)+1) 120 (pcC p)),O10,O11,O12,.emp 0,.mem 2 64 MC,ze (vb+i) 36 (jv (bsW M))]) ?_ ?_ ?_
  ·simp[pcC,tkC]
  ·simp
  ·simp only[List.append_assoc,lca,lna];simp (disch:=omega) only[pcC,tkC,go_sem]
   repeat' first|with_reducible apply aiA|exact clz|fail
   refine kg (qt2 (a:=h.length+3) (b:=h.length+15) (c:=h.length) (va:=1) (vb:=vb+i) (Z:= .mem 1 26 [.str x.sec,strs x.sig,qm x.tok,qw x.col]) ⟨by simp,by simp,by simp,om,om,om⟩ M p (-1) (-1) (by simp only[go_sem]) (by simp only[go_sem]) (by simp only[go_sem]) (by rw[<-hX0];exact lX0) (hpF p hpm) hMn hMF) ?_;simp (disch:=omega) only[go_sem];refine hN1 _ _ (h++ [.mem 1 26 [.str x.sec,strs x.sig,qm x.tok,qw x.col],.emp 1,.emp 2,.mem 1 29 [.osl (h.length+15) (vb+(i+1)) 7 0 (M++ [(⟨p,-1,-1⟩:Rw)]).length],.mem 1 121 [.fn (.func 80) [] [.op (h.length+3) 1 0]],O5,.emp 0,P7,P8,(.mem (qq (some A)+1) 120 (pcC p)),O10,O11,O12,.emp 0,.mem 2 64 MC,ze (vb+(i+1)) 36 (jv (bsW (M++ [(⟨p,-1,-1⟩:Rw)])))]) ?_ ?_ ⟨_,rfl,?_,by rw[hS]⟩
   ·simp[pcC,tkC,Nat.add_assoc]
   ·simp
   ·intro n c hc;simp[pcC,tkC]at hc;rcases hc with rfl|rfl|rfl|rfl|rfl|rfl|rfl<;>rfl
 ·rintro hh ⟨A,sA,lA,rfl⟩;rw[List.length_map,List.take_length];obtain⟨L1,hL1⟩:=wc (L0++rwM ps (-1) (-1))
  rw[<-hL1]
  by_cases hkl:k<0
  case neg=>
   have hke:k=0:=by omega
   obtain⟨b1,b2⟩:f=x.col.length∧t'=x.col.length:=⟨hf,ht'⟩
   have q4:((k:Int)=0)=True:=wh;rw[hP7,hP8];simp (disch:=omega) only[q4,go_sem]
   repeat' first|with_reducible apply aiA|exact clz|fail
   rw[<-hP7,<-hP8];have e1:rwK x [] [] S (k+1)=L1:=by
    unfold rwK;rw[ine (by simp),hL1,hL0,hps,b1,hke];rfl
   have e2:nxT x [] (k+1)=t':=by unfold nxT;rw[ine (by simp),b2]
   refine hK _ _ ⟨k+1,vb+ps.length,P7,P8,A,O10,O11,O12⟩ ⟨by simp only;omega,λO hO=> ?_⟩ (by simp only;omega) ?_
   ·simp only[List.mem_cons,List.not_mem_nil,or_false]at hO;rcases hO with rfl|rfl|rfl|rfl|rfl|rfl
    ·exact hP7l
    ·exact hP8l
    ·exact⟨sA,lA⟩
    ·exact⟨s10,l10⟩
    ·exact⟨s11,l11⟩
    ·exact⟨s12,l12⟩
   ·simp only[e1,e2];refine Wk.temps ?_
    (simp only[go_sem,qg,qc,qa,qf];try (repeat' first|(with_reducible apply aiA)|(apply qh;omega)|(apply qd;rfl)|exact qi))
  exact absurd hkl (nnz k)
 ·intro e hh hf;exact hf.elim
theorem qzh(x:Co)(l:List Un)(d:List Dc)(s:Int)(h:we)(hz:qaN x)(hu:qdB l)(hp:kJ SG h)(hg:zQ h frmN frmC)(hd:d.length<=1000000)(ht: ∀o∈d,o.txt.length<=1000)(hN0:vaE x l=0->(rwA x l d s.toNat).length<=1000000000):
  ACalls Tryz.prog 25 [.agg (coC x),zM l,kB d,.int .i64 s] h (.tup [Sl (esR x l d s),.int .i64 (esE x l d s)]) h:=by
 cases l with
 |nil=>exact ACalls.sl0 (pre:= [.agg (coC x)]) (post:= [kB d,.int .i64 s]) (qz3 x d s h hz hp hg hd ht hN0) (qz4 x d s h hz hp hg hd ht hN0)
 |cons u r=>exact qCb x (u::r) d s h hz hu hp hg (List.cons_ne_nil _ _) hd ht hN0
end RC
end
section
open Go Go.Proofs AF
def qbM:List Nat:= []
def quA:C:=
 (vS [⟨some 2,none,.alloc 0 92 [.str [],.str [],.str [],i6 0,i6 0,.str []],[]⟩] (vV [MV 3 0,MV 4 0,⟨some 5,none,.build [.str [],.str [],.str [],i6 0,i6 0,.str []]
 [(0,1),(1,1)],[.t 3,.t 4]⟩,ST 6 2 5]))
theorem qwb:qJ Tryz.prog 150 6 1 [RV.cell 2 (some 6)] quA:=fi Tryz.f150 [2] qbM []
def qBA:C:=
 (vS [⟨some 0,none,.alloc 0 26 [.str [],.nl,.nl,.nl],[]⟩] (vV [⟨some 1,none,.bslc 1 1 2 9 [.str []] [(0,1),(1,1)],[.c (.str [65]),.c (.str [66])]⟩,ON 2 (.call 150 true) [.c (.str
 [100,101,117,115])],ON 3 (.call 150 true) [.c (.str [101,115,116])],ON 4 (.call 150 true) [.c (.str [98,111,110,117,115])],⟨some 5,none,.bslc 2 6 3 92 [.str [],.str [],.str
 [],i6 0,i6 0,.str []] [(0,6),(6,6),(12,6)],[.t 2,.t 3,.t 4]⟩,ON 6 (.call 150 true) [.c (.str [100,101,117,115])],ON 7 (.call 150 true) [.c (.str [98,111,110,117,115])],⟨some
 8,none,.bslc 3 6 2 92 [.str [],.str [],.str [],i6 0,i6 0,.str []] [(0,6),(6,6)],[.t 6,.t 7]⟩,⟨some 9,none,.bslc 4 1 2 93 [.nl] [(0,1),(1,1)],[.t 5,.t 8]⟩,⟨some 10,none,.bslc 5
 1 2 3 [i6 0] [(0,1),(1,1)],[.c (i6 0),.c (i6 0)]⟩,⟨some 11,none,.bslc 6 1 2 3 [i6 0] [(0,1),(1,1)],[.c (i6 1),.c (i6 (-1))]⟩,⟨some 12,none,.bslc 7 1 2 3 [i6 0]
 [(0,1),(1,1)],[.c (i6 2),.c (i6 1)]⟩,⟨some 13,none,.bslc 8 1 3 39 [.nl] [(0,1),(1,1),(2,1)],[.t 10,.t 11,.t 12]⟩,⟨some 14,none,.build [.str [],.nl,.nl,.nl]
 [(0,1),(1,1),(2,1),(3,1)],[.c (.str [97]),.t 1,.t 9,.t 13]⟩,ST 4 0 14]))
theorem qAp:qJ Tryz.prog 94 15 9 [RV.cell 0 (some 4)] qBA:=fi Tryz.f94 [0,1,5,8,9,10,11,12,13] qbM []
def qvr:C:=
 (vS [O1 1 (.box 0 75) 0,MC 2 (.bool false)] (vV [vL 3 0 1,O1 4 (.load (some 4)) 3,O1 5 (.call 28 true) 4,MV 6 5,vZ 7 6 4 1,v6 8 6 7,vO 9 6 (.call 93 true) 8,PT 10 6 9,MV 11
 10,vZ 12 11 5 1,v6 13 11 12,vO 14 11 (.call 23 true) 13,PT 15 11 14,MV 2 15]))
theorem qm6:qJ Tryz.prog 39 16 1 [RV.tmp 2] qvr:=fi Tryz.f39 [1] qbM []
def qvs:C:=
 (vS [O1 1 (.box 0 75) 0,ON 2 (.nilo 1 7 36) [],MC 3 (.bool false)] ((vS [O1 6 (.load (some 7)) 1,O1 7 (.call 39 true) 6,MV 8 7,vZ 9 8 0 1,vO 10 8 (.load (some 4)) 9,vO 11 8
 (.call 29 true) 10,vR 12 8 (.bin .neq) 11 (i6 0),PT 13 8 12] (vT 13 (vV [ON 2 (.nilo 1 7 36) [],MC 3 (.bool false)]))).seq (vS [vL 15 0 1,O1 16 (.load (some 4)) 15,vL 17 4 1,LD
 18 17,vL 19 5 1,LD 20 19,vL 21 6 1,LD 22 21,ON 23 (.call 25 true) [.t 16,.t 18,.t 20,.t 22],MV 14 23,O1 24 (.ext 0) 14,O1 25 (.ext 1) 14,MV 4 24,MV 5 25] (vV [MV 26 4,MV 27
 5,vN 28 .eql 27 0,MV 2 26,MV 3 28]))))
theorem qm7:qJ Tryz.prog 64 29 2 [RV.tmp 2,RV.tmp 3] qvs:=fi Tryz.f64 [1,2] qbM []
end
section
open Go Go.Proofs AF
def qrL:List Nat:= [25]
def qBq:C:=
 (vS [MC 0 (.bool false)] (vS [ON 10 (.call 94 true) [],O1 11 (.call 31 true) 10,MV 9 11,O1 12 (.ext 0) 9,O1 13 (.ext 1) 9,MV 1 12,MV 2 13] (vS [ON 15 (.call 94 true) [],MV 16
 1,ON 17 (.call 25 false) [.t 15,.t 16,.c .nl,.c (i6 0)],MV 14 17,O1 18 (.ext 0) 14,O1 19 (.ext 1) 14,MV 3 18,MV 4 19] (vS [ON 21 (.call 94 true) [],MV 22 1,⟨some 23,none,.build
 [i6 0,.str [],i6 0,.str []] [(0,1),(1,1),(2,1)],[.c (i6 3),.c (.str [65]),.c (i6 1)]⟩,⟨some 24,none,.bslc 0 4 1 43 [i6 0,.str [],i6 0,.str []] [(0,4)],[.t 23]⟩,ON 25 (.call 25
 false) [.t 21,.t 22,.t 24,.c (i6 0)],MV 20 25,O1 26 (.ext 0) 20,O1 27 (.ext 1) 20,MV 5 26,MV 6 27] (vS [ON 29 (.call 94 true) [],MV 30 1,⟨some 31,none,.build [i6 0,.str [],i6
 0,.str []] [(0,1),(1,1),(2,1),(3,1)],[.c (i6 2),.c (.str [65]),.c (i6 1),.c (.str [118,101,114,101,44,32,101,116])]⟩,⟨some 32,none,.bslc 1 4 1 43 [i6 0,.str [],i6 0,.str []]
 [(0,4)],[.t 31]⟩,ON 33 (.call 25 false) [.t 29,.t 30,.t 32,.c (i6 0)],MV 28 33,O1 34 (.ext 0) 28,O1 35 (.ext 1) 28,MV 7 34,MV 8 35] ((vS [MV 36 2,MV 37 4,MV 38 6,MV 39 8,ON 40
 (.mm true) [.t 36,.t 37,.t 38,.t 39],vN 41 .neq 40 0,MV 42 41,vQ 43 42 7,vO 44 42 .len 43,vR 45 42 (.bin .neq) 44 (i6 5),PT 46 42 45] (vT 46 (vV [MC 0 (.bool false)]))).seq (vV
 [MV 47 3,O1 48 (.call 37 true) 47,⟨some 49,none,.bslc 2 1 3 9 [.str []] [(0,1),(1,1),(2,1)],[.c (.str [100,101,117,115]),.c (.str [101,115,116]),.c (.str
 [98,111,110,117,115])]⟩,O2 50 (.call 36 true) 48 49,MV 51 50,MG 52 51 true 5,P1 53 51 true (.call 37 true) 52,⟨some 54,some (51,true),.bslc 3 1 2 9 [.str []] [(0,1),(1,1)],[.c
 (.str [100,101,117,115]),.c (.str [98,111,110,117,115])]⟩,P2 55 51 true (.call 36 true) 53 54,PF 56 51 55,MV 57 56,MG 58 57 true 7,P1 59 57 true (.call 37 true) 58,⟨some
 60,some (57,true),.bslc 4 1 5 9 [.str []] [(0,1),(1,1),(2,1),(3,1),(4,1)],[.c (.str [100,101,117,115]),.c (.str [118,101,114,101]),.c (.str [44]),.c (.str [101,116]),.c (.str
 [98,111,110,117,115])]⟩,P2 61 57 true (.call 36 true) 59 60,PF 62 57 61,MV 63 62,MG 64 63 true 7,PC 65 63 true (.idxA 7) 64 (i6 2),P1 66 63 true (.fldA 4) 65,P1 67 63 true
 (.load none) 66,PF 68 63 67,MV 69 68,MG 70 69 true 7,PC 71 69 true (.idxA 7) 70 (i6 3),P1 72 69 true (.fldA 4) 71,P1 73 69 true (.load none) 72,P1 74 69 true (.un UnOp.not)
 73,PF 75 69 74,MV 0 75])))))))
theorem qAd:qJ Tryz.prog 40 76 5 [RV.tmp 0] qBq:=fi Tryz.f40 [24,32,49,54,60] qrL []
end
section
open Go Go.Proofs AF HY LN
namespace RC
theorem qCk(a:Cq)(h:we)(hb:CqB a):ACalls Tryz.prog 39 [.agg (cqC a)] h (.bool (qrA a)) h:=by
 have c1:=λh=>qCg a.x h hb.x
 have c2:=λh=>qCh a.l h hb.l
 have c3:=λh=>qAw a.d h hb.d
 unfold qrA;cases e1:qry a.x with
 |true=>
  rw[e1]at c1;unfold coC at c1;refine acO qm6 ?_;simp (disch:=omega) only[qvr,cqC,go_sem]
  repeat' first|(refine qj ( .bool false) ?_;simp (disch:=omega) only[go_sem])|(refine cA (c1 _) flk ?_;simp (disch:=omega) only[go_sem])|exact v7|fail
 |false=>
  rw[e1]at c1;unfold coC at c1;cases e2:qrz a.l with
  |true=>
   rw[e2]at c2;refine acO qm6 ?_;simp (disch:=omega) only[qvr,cqC,go_sem]
   repeat' first|(refine qj ( .bool false) ?_;simp (disch:=omega) only[go_sem])|((first|refine cA (c1 _) ?_ ?_|refine cG (λe=>c2 _) ?_ ?_);exact flk;simp (disch:=omega) only[go_sem])|exact v7|fail
  |false=>
   rw[e2]at c2;cases e3:qrB a.d with
   |true=>
    rw[e3]at c3;refine acO qm6 ?_;simp (disch:=omega) only[qvr,cqC,go_sem]
    repeat' first|((first|refine cA (c1 _) ?_ ?_|refine cG (λe=>c2 _) ?_ ?_|refine cG (λe=>c3 _) ?_ ?_);exact flk;simp (disch:=omega) only[go_sem])|exact v7|fail
   |false=>
    rw[e3]at c3;refine acO qm6 ?_;simp (disch:=omega) only[qvr,cqC,go_sem]
    repeat' first|((first|refine cA (c1 _) ?_ ?_|refine cG (λe=>c2 _) ?_ ?_|refine cG (λe=>c3 _) ?_ ?_);exact flk;simp (disch:=omega) only[go_sem])|exact v7|fail
def mdB(a:Cq):Bool:= !qrA a&&decide (esE a.x a.l a.d a.lead=0)
def mdR(a:Cq):List Wd:=if qrA a=true then [] else esR a.x a.l a.d a.lead
theorem qz2{x:Co}{l:List Un}{d:List Dc}{s:Int}(h:coE x≠0):esE x l d s≠0:=by
 have:vaE x l=1:=by unfold vaE;rw[ipo h]
 unfold esE;rw[this,ipo (by decide)];decide
theorem esA(a:Cq)(h:we)(z:CqS a)(hp:kJ SG h)(hg:zQ h frmN frmC):ACalls Tryz.prog 25 [.agg (coC a.x),zM a.l,kB a.d,.int .i64 a.lead] h (.tup [Sl (esR a.x a.l a.d a.lead),.int .i64 (esE a.x a.l a.d a.lead)]) h:=
 qzh a.x a.l a.d a.lead h z.x z.l hp hg (by have:=z.d;omega) (λo ho=>by have:=z.t o ho;omega) (z.lim _)
theorem qAE(a:Cq)(h:we)(hb:CqB a)(hp:kJ SG h)(hg:zQ h frmN frmC):ACalls Tryz.prog 64 [.agg (cqC a)] h (.tup [Sl (mdR a),.bool (mdB a)]) h:=by
 have c1:=λh=>qCk a h hb
 unfold mdB mdR;cases e1:qrA a with
 |true=>
  rw[e1]at c1;refine acO qm7 ?_;simp (disch:=omega) only[qvs,cqC,go_sem]
  repeat' first|(refine qj ( .int .i64 0) ?_;simp (disch:=omega) only[go_sem])|(refine cA (c1 _) flk ?_;simp (disch:=omega) only[go_sem])|(apply qb;exact rvk;simp only[go_sem])
  exact VLe.tup ⟨qZ,qi,trivial⟩
 |false=>
  rw[e1]at c1;have z:=qpR e1;have c2:=λl'=>coR a.x (h++l') z.x (hp.app l')
  have c3:=λl'=>esA a (h++l') z (hp.app l') hg.app
  rw[ine (by simp)]
  by_cases e2:coE a.x=0
  ·rw[e2]at c2;obtain⟨E,hE⟩:=wc (esE a.x a.l a.d a.lead)
   simp only[<-hE]at c3 ⊢;unfold cqC at c1;unfold coC at c2 c3
   by_cases e3:E=0
   ·have k3:(E=0)=True:=eqt e3;rw[dqt e3];refine acO qm7 ?_;simp (disch:=omega) only[qvs,cqC,go_sem]
    repeat' first|((first|refine cA (c1 _) ?_ ?_|refine cG (λe=>c2 _) ?_ ?_|refine cA (c3 _) ?_ ?_);exact flk;simp (disch:=omega) only[k3,go_sem])|exact v7|with_reducible apply aiA|exact clz|fail
   ·have k3:(E=0)=False:=eqf e3;rw[dqf e3];refine acO qm7 ?_;simp (disch:=omega) only[qvs,cqC,go_sem]
    repeat' first|((first|refine cA (c1 _) ?_ ?_|refine cG (λe=>c2 _) ?_ ?_|refine cA (c3 _) ?_ ?_);exact flk;simp (disch:=omega) only[k3,go_sem])|exact v7|with_reducible apply aiA|exact clz|fail
  ·have k2:(coE a.x=0)=False:=eqf e2;have hn:=qz2 (l:=a.l) (d:=a.d) (s:=a.lead) e2;rw[dqf hn];unfold esR;rw[ine hn];obtain⟨E,hE⟩:=wc (coE a.x)
   simp only[<-hE]at c2 k2;unfold cqC at c1;unfold coC at c2;refine acO qm7 ?_;simp (disch:=omega) only[qvs,cqC,go_sem]
   repeat' first|((first|refine cA (c1 _) ?_ ?_|refine cG (λe=>c2 _) ?_ ?_);exact flk;simp (disch:=omega) only[k2,go_sem])|(apply qb;exact rvk;simp only[go_sem])
   exact VLe.tup ⟨qZ,qi,trivial⟩
theorem qA4(s:Str)(h:we):ACalls Tryz.prog 150 [.str s] h (.agg (tkC (tkS s))) h:=by
 unfold tkS tkC;refine acO qwb ?_;simp (disch:=omega) only[quA,go_sem]
 repeat' first|exact v7|fail
theorem qA1(h:we):ACalls Tryz.prog 94 [] h (.agg (coC xCo)) h:=by
 have c1:=λs h=>qA4 s h
 unfold tkC tkS at c1;refine acO qAp ?_;simp (disch:=omega) only[qBA,go_sem]
 repeat' first|((first|refine cA (c1 U2 _) ?_ ?_|refine cA (c1 qtX _) ?_ ?_|refine cA (c1 R7 _) ?_ ?_);exact flk;simp (disch:=omega) only[go_sem])|(apply qb;exact rvk;simp only[go_sem])
 refine VLe.agg ⟨qi,vl2 ⟨ie rfl,trivial⟩ ⟨ie rfl,trivial⟩,vl2 ⟨?a1,trivial⟩ ⟨?a2,trivial⟩,vl3 ⟨?a3,trivial⟩ ⟨?a4,trivial⟩ ⟨?a5,trivial⟩,trivial⟩
 case a1=>simp only[go_sem];exact il3 rfl rfl rfl
 case a2=>simp only[go_sem];exact il2 rfl rfl
 case a3=>simp only[go_sem];exact il2 rfl rfl
 case a4=>simp only[go_sem];exact il2 rfl rfl
 case a5=>simp only[go_sem];exact il2 rfl rfl
def qsu:Str:= [118,101,114,101]
def qD1:Dc:=⟨3,[65],1,[]⟩
def qD2:Dc:=⟨2,[65],1,[118,101,114,101,44,32,101,116]⟩
def qA:List Wd:= [⟨U2,0,-1,-1,false,false,[]⟩,⟨qtX,1,0,-1,false,false,[]⟩,⟨R7,2,-1,-1,false,false,[]⟩]
def qB:List Wd:= [⟨U2,0,-1,-1,false,false,[]⟩,⟨R7,2,-1,-1,false,false,[]⟩]
def qC:List Wd:= [⟨U2,0,-1,-1,false,false,[]⟩,⟨qsu,1,0,0,false,false,[]⟩,⟨[44],1,0,0,true,false,[]⟩,⟨[101,116],1,0,0,false,false,[]⟩,⟨R7,2,-1,-1,false,false,[]⟩]
theorem q_u:utR xCo=xUn∧utE xCo=0:=by decide+kernel
theorem q_a:esE xCo xUn [] 0=0∧esR xCo xUn [] 0=qA:=by decide+kernel
theorem q_b:esE xCo xUn [qD1] 0=0∧esR xCo xUn [qD1] 0=qB:=by decide+kernel
theorem q_c:esE xCo xUn [qD2] 0=0∧esR xCo xUn [qD2] 0=qC:=by decide+kernel
theorem qzr(h:we)(hp:kJ SG h)(hg:zQ h frmN frmC):ACalls Tryz.prog 40 [] h (.bool true) h:=by
 have c1:=λh=>qA1 h
 have zs:qaN xCo:=(qpP (by decide+kernel)).1;have zu:qdB xUn:=(qpQ (by decide+kernel)).1;have c2:=λl'=>qA7 xCo (h++l') zs (hp.app l')
 rw[q_u.1,q_u.2]at c2;have hb: ∀d:List Dc,(∀o∈d,o.txt.length<=1000)->vaE xCo xUn=0->(rwA xCo xUn d (0:Int).toNat).length<=1000000000:=λd ht g=>qkB (by decide) ht g
 have t1: ∀o∈ [qD1],o.txt.length<=1000:=by decide
 have t2: ∀o∈ [qD2],o.txt.length<=1000:=by decide
 have c3:=λl'=>(qzh xCo xUn [] 0 (h++l') zs zu (hp.app l') hg.app (by simp) (by simp) (hb [] (by simp))).le (args:= [.agg (coC xCo),zM xUn,.nl,.int .i64 0]) ⟨qi,qi,qZ,qi,trivial⟩ (qi)
 have c4:=λl'=>qzh xCo xUn [qD1] 0 (h++l') zs zu (hp.app l') hg.app (by simp) t1 (hb _ t1)
 have c5:=λl'=>qzh xCo xUn [qD2] 0 (h++l') zs zu (hp.app l') hg.app (by simp) t2 (hb _ t2)
 rw[q_a.1,q_a.2]at c3;rw[q_b.1,q_b.2]at c4;rw[q_c.1,q_c.2]at c5;have hc0:([h.length]:List Nat).contains h.length=true:=by simp
 have hc1:([h.length+1]:List Nat).contains (h.length+1)=true:=by simp
 unfold coC at c1 c2 c3;refine acO qAd ?_;simp (disch:=omega) only[qBq,go_sem]
 repeat' first|((first|refine cA (c1 _) ?_ ?_|refine cA (c2 _) ?_ ?_|refine cA (c3 _) ?_ ?_);exact flk;simp (disch:=omega) only[go_sem])|with_reducible apply aiA|exact clz|fail
 refine qy (r:= .tup [Sl qB,.int .i64 0]) (h':=h++ [.emp 2,.emp 0,.emp 0,.emp 0,.emp 0]) (ACalls.frzd [h.length] (by simp only[SL,go_sem]) ?c) (by exact flk) ?_
 case c=>
  simp only[qaU,go_sem];refine ACalls.le (c4 _) ?_ (qi);simp only[go_sem,coC,hc0,if_true];exact⟨qi,qi,VLe.sl_eq rfl (λi hi=>by
   obtain rfl:i=0:=by omega
   rfl),qi,trivial⟩
 simp (disch:=omega) only[go_sem]
 repeat' first|(refine cA (c1 _) flk ?_;simp (disch:=omega) only[go_sem])|with_reducible apply aiA|exact clz|fail
 refine qy (r:= .tup [Sl qC,.int .i64 0]) (h':=h++ [.emp 2,.emp 2,.emp 0,.emp 0,.emp 0]) (ACalls.frzd [h.length+1] (by simp only[SL,go_sem]) ?d) (by exact flk) ?_
 case d=>
  simp only[qaU,go_sem];refine ACalls.le (c5 _) ?_ (qi);simp only[go_sem,coC,hc1,if_true];exact⟨qi,qi,VLe.sl_eq rfl (λi hi=>by
   obtain rfl:i=0:=by omega
   rfl),qi,trivial⟩
 have zm:valP (.mm true) [.int .i64 0,.int .i64 0,.int .i64 0,.int .i64 0]= .int .i64 0:=rfl;have zn:okP (.mm true) [.int .i64 0,.int .i64 0,.int .i64 0,.int .i64 0]=True:=eqt (by simp[okP,qaz]);have zA: ∀g,valL g .len [Sl qC]= .int .i64 5:=λ_=>rfl
 have zB: ∀g,okL g .len [Sl qC]=True:=λ_=>eqt trivial
 have w1:=λh=>qtL qA h (by decide)
 have w2:=λh=>qtL qB h (by decide)
 have w3:=λh=>qtL qC h (by decide)
 have e1:qll qA= [U2,qtX,R7]:=rfl;have e2:qll qB= [U2,R7]:=rfl;have e3:qll qC= [U2,qsu,[44],[101,116],R7]:=rfl;rw[e1]at w1;rw[e2]at w2;rw[e3]at w3;simp (disch:=omega) only[zm,zn,zA,zB,go_sem]
 repeat' first|(refine cA (w1 _) flk ?_;simp (disch:=omega) only[go_sem])|with_reducible apply aiA|exact clz|fail
 refine cA (qz0 (L:= [U2,qtX,R7]) ?v1 (by decide)) (by exact flk) ?_
 case v1=>
  simp only[List.map,go_sem];exact⟨qi,VLe.sl_eq rfl (λi hi=>by
   match i,hi with
   |0,_=>rfl
   |1,_=>rfl
   |2,_=>rfl
   |n+3,hi=>exact absurd hi om),trivial⟩
 simp (disch:=omega) only[go_sem]
 repeat' first|(refine cG (λe=>w2 _) flk ?_;simp (disch:=omega) only[go_sem])
 refine cG (λ_=>qz0 (L:= [U2,R7]) ?v2 (by decide)) (λ_=>by exact flk) ?_
 case v2=>
  simp only[List.map,go_sem];exact⟨qi,VLe.sl_eq rfl (λi hi=>by
   match i,hi with
   |0,_=>rfl
   |1,_=>rfl
   |n+2,hi=>exact absurd hi om),trivial⟩
 simp (disch:=omega) only[go_sem]
 repeat' first|(refine cG (λe=>w3 _) flk ?_;simp (disch:=omega) only[go_sem])
 refine cG (λ_=>qz0 (L:= [U2,qsu,[44],[101,116],R7]) ?v3 (by decide)) (λ_=>by exact flk) ?_
 case v3=>
  simp only[List.map,go_sem];exact⟨qi,VLe.sl_eq rfl (λi hi=>by
   match i,hi with
   |0,_=>rfl
   |1,_=>rfl
   |2,_=>rfl
   |3,_=>rfl
   |4,_=>rfl
   |n+5,hi=>exact absurd hi om),trivial⟩
 have zq:Sl qC= .sl 5 λi=>wdC (qC.getD i default):=rfl
 have g2:qC.getD 2 default=⟨[44],1,0,0,true,false,[]⟩:=rfl;have g3:qC.getD 3 default=⟨[101,116],1,0,0,false,false,[]⟩:=rfl;simp (disch:=omega) only[zq,wdC,go_sem]
 repeat' first|exact v7|(with_reducible first|intro _|apply aiA)|exact clz|fail
structure Ld where
 s:Int
 t:Str
 k:Int
def ldD(x:Co)(l:List Un)(d:List Dc)(s:Int)(k:Nat):Nat->Ld
 |0=>⟨s,[],1⟩
 |n+1=>if kK x l (d.getD n default)=k then ⟨zC x (d.getD n default).sig,(d.getD n default).txt,(d.getD n default).kind⟩ else ldD x l d s k n
theorem qxH(x:Co)(l:List Un)(d:List Dc)(s:Int)(k:Nat): ∀n,ldD x l d s k n=
  if Sj x l d k n<0 then ⟨s,[],1⟩ else ⟨zC x (d.getD (Sj x l d k n).toNat default).sig,(d.getD (Sj x l d k n).toNat default).txt,(d.getD (Sj x l d k n).toNat default).kind⟩:=by
 intro n
 induction n with
 |zero=>rfl
 |succ n ih=>
  unfold ldD Sj
  by_cases g:kK x l (d.getD n default)=k
  ·rw[ipo g,ipo g,ine om,itn]
  ·rw[ine g,ine g,ih]
theorem qxV{x:Co}{l:List Un}{d:List Dc}{s:Nat}(h:qaP x l d s){k:Nat}(hk:k<l.length):
  (1<=(ldD x l d s k d.length).k∧(ldD x l d s k d.length).k<=3)∧(0<=(ldD x l d s k d.length).s∧(ldD x l d s k d.length).s<x.sig.length)∧
  ((ldD x l d s k d.length).k=1->owG (bsW (rwA x l d s)) k (bsW (rwA x l d s)).length=rdG x (ldD x l d s k d.length).s.toNat (frN l k) (toN l k-frN l k))∧
  ((ldD x l d s k d.length).k=3->owG (bsW (rwA x l d s)) k (bsW (rwA x l d s)).length= [])∧
  ((ldD x l d s k d.length).k=2->owG (bsW (rwA x l d s)) k (bsW (rwA x l d s)).length=(qaJ (ldD x l d s k d.length).t).map Tk.text∧qaJ (ldD x l d s k d.length).t≠ []):=by
 rw[qxU h hk,qou,qxH];have hs:=h.sl
 by_cases g:Sj x l d k d.length<0
 ·rw[ipo g,ipo g];refine⟨⟨Int.le_refl _,by show (1:Int)<=3;omega⟩,⟨by show 0<=(s:Int);omega,by show (s:Int)<_;omega⟩,λ_=>rfl,λe=> ?_,λe=> ?_⟩
  ·have e:(1:Int)=3:=e;omega
  ·have e:(1:Int)=2:=e;omega
 ·rw[ine g,ine g];obtain⟨c1,c2,c3⟩:=qjy h g;obtain⟨o,ho⟩:=wc (d.getD (Sj x l d k d.length).toNat default)
  rw[<-ho]at c2 ⊢;obtain⟨p1,p2,_,p4,_,p6⟩:=Tq c2;obtain⟨t1,t2,_⟩:=qdp p4;refine⟨⟨p1,p2⟩,⟨t1,by show zC x o.sig<_;omega⟩,λe=> ?_,λe=> ?_,λe=> ?_⟩
  ·have e:o.kind=1:=e;rw[ipo e]
  ·have e:o.kind=3:=e;rw[ine om,ine om]
  ·have e:o.kind=2:=e;rw[ine om,ipo e];exact⟨rfl,(qeI p6 e).2.2.1⟩
theorem qaP.esE{x:Co}{l:List Un}{d:List Dc}{s:Nat}(h:qaP x l d s):esE x l d s=0:=by
 have h1:vaE x l=0:=by
  unfold vaE;rw[ine (λhc=>hc h.ca),ine];unfold rgB;rw[h.us,h.cv];simp
 have h2:Ut x l d=0:=by
  unfold Ut;rw[ine (by have:=h.dl;omega)];exact jJ.2 h.pl
 have:=h.sl
 have:=h.ln
 unfold RC.esE;rw[h1,h2,ine (by simp),ine om,ine (by simp),ine (by rw[itn];omega)]
theorem qAF{a:Cq}(h:mdB a=true):CqS a∧0<=a.lead∧qaP a.x a.l a.d a.lead.toNat∧mdR a=bsW (rwA a.x a.l a.d a.lead.toNat):=by
 unfold mdB at h;rw[Bool.and_eq_true,Bool.not_eq_true',decide_eq_true_iff]at h;obtain⟨h1,h2⟩:=h;obtain⟨h3,h4⟩:=qvP h2;refine⟨qpR h1,h3,h4,?_⟩;unfold mdR;rw[ine (by simp[h1])];unfold esR;rw[ipo h2]
theorem qvQ{x:Co}{l:List Un}{d:List Dc}{s:Nat}(h:qaP x l d s){j:Nat}(hj:j<d.length):qo3 x l (d.getD j default)=0∧qyI x l (d.getD j default)=kK x l (d.getD j default):=by
 have h1:vaE x l=0:=by
  unfold vaE;rw[ine (λhc=>hc h.ca),ine];unfold rgB;rw[h.us,h.cv];simp
 have h2:qo3 x l (d.getD j default)=0:=by unfold qo3;rw[ine (by simp[h1])];exact h.pl j hj
 exact⟨h2,by unfold qyI;rw[ipo h2]⟩
theorem qaP.va{x:Co}{l:List Un}{d:List Dc}{s:Nat}(h:qaP x l d s):vaE x l=0:=by
 unfold vaE;rw[ine (λhc=>hc h.ca),ine];unfold rgB;rw[h.us,h.cv];simp
end RC
end
section
namespace Go.Proofs
open Go.Shelf Go.RowKit Go.Lib
theorem jY{p:Prop}(h:p):Hid p:=h
theorem qf6(b n:Nat)(w:World)(hb:w.heap[b]? =some (.cells #[.pointer none,.slice none 0 0] 158 (0,0)))(hBw:b<=w.heap.size)(hn:n<=281474976710656):
  Calls Tryz.prog 117 #[.pointer (some ⟨b,0,none⟩),.int .i64 n] w λe w'=>e= .returned (.tuple #[])∧(Lib.BuilderAt 158 5 b b (.pointer (some ⟨b,0,none⟩)) [] w'∧Below b w w'):=
 Any.Builder_Grow_fresh { Tryz.laysJ156 with } RC.Tryz.joinX b b n w (nlr _) hb hBw hn
theorem qct(B b:Nat)(bs:List Value)(s:ByteArray)(w:World)(h:Lib.IsBuilder 158 5 B b bs w)(hlen:bs.length+s.size<=140737488355328)(hBw:B<=w.heap.size):
  Calls Tryz.prog 118 #[.pointer (some ⟨b,0,none⟩),.string s] w λe w'=>e= .returned (.tuple #[.int .i64 s.size,.nilIface])∧(Lib.BuilderAt 158 5 B b (.pointer (some ⟨b,0,none⟩)) (bs++Lib.strCells s) w'∧Below B w w'):=
 Any.Builder_WriteString { Tryz.laysJ156 with } RC.Tryz.joinX B b bs s w h hlen hBw
theorem qoJ(B b:Nat)(l:List UInt8)(w:World)(h:Lib.IsBuilder 158 5 B b (Lib.byteCells l) w)(hBw:B<=w.heap.size):
  Calls Tryz.prog 116 #[.pointer (some ⟨b,0,none⟩)] w λe w'=>e= .returned (.string ⟨l.toArray⟩)∧Below B w w':=
 Any.Builder_String_any { Tryz.laysJ156 with } RC.Tryz.joinX B b l w h hBw
theorem qfW(c:UInt8): ∀l:List UInt8,0<l.count c->l.filter (· !=c)=l.take (HY.cutAt c l)++(l.drop (HY.cutAt c l+1)).filter (· !=c):=by
 intro l
 induction l with
 |nil=>intro h;simp at h
 |cons a l ih=>
  intro h;rw[HY.cutAt_cons]
  by_cases e:a=c
  ·rw[ipo e];simp[e]
  ·rw[ine e,List.filter_cons,ipo (by simpa using e),List.take_succ_cons,List.drop_succ_cons,lca];rw[List.count_cons,ine (by simpa using e)]at h;rw[<-ih om]
set_option maxHeartbeats 16000000 in
set_option maxRecDepth 1000000 in
theorem qon(s old new:ByteArray)(c:UInt8)(ho:old=⟨#[c]⟩)(hn:new=⟨#[]⟩)(w:World)(hs:s.size<4294967281)(hc0:s.data.toList.count c≠0):
  Calls Tryz.prog 121 #[.string s,.string old,.string new,.int .i64 (-1)] w λe w'=>
   e= .returned (.string ⟨(s.data.toList.filter (· !=c)).toArray⟩)∧Below w.heap.size w w':=by
 have hC:Calls Tryz.prog 163 #[.string s,.string old] w λe w'=>e= .returned (.int .i64 (s.data.toList.count c))∧w'=w:=by rw[ho];exact qcK s c w
 have hI: ∀(t:ByteArray) w,Calls Tryz.prog 120 #[.string t,.string old] w λe w'=>e= .returned (.int .i64 (Lib.indexByte t.data.toList c))∧w'=w:=λt w=>by rw[ho];exact qnu t c w
 have hos:old.size=1:=by rw[ho];rfl
 have hns:new.size=0:=by rw[hn];rfl
 have hnc:Lib.strCells new= []:=by rw[hn];rfl
 have hneq:old≠new:=λe=>by rw[e,hns]at hos;omega
 have hbeq:(old.toList==new.toList)=false:=(Lib.bytes_beq_false_iff old new).2 hneq;have hlenL:s.data.toList.length=s.size:=(Lib.size_eq s).symm;obtain⟨K,hK⟩: ∃K:Nat,s.data.toList.count c=K:=⟨_,rfl⟩
 have hKs:K<=s.size:=by rw[<-hK,<-hlenL];exact List.count_le_length
 have hK0:s.data.toList.drop 0=s.data.toList:=rfl;rw[hK]at hC hc0;have hcz:((K:Int)==0)=false:=beq_eq_false_iff_ne.2 om;have hga:=Lib.grow_arg s.size K new.size old.size om (by rw[hos];omega) (by rw[hns];omega);rw[hns,hos]at hga;have hod:decide (0<old.size)=true:=dqt om;clear ho hn hneq;have e82: ∀args w,(callFunc 163 args).run Tryz.prog w= .ok (.enter 163 args) w:=enters_of Tryz.func163 (by kernel_rfl) rfl;have e83: ∀args w,(callFunc 117 args).run Tryz.prog w= .ok (.enter 117 args) w:=enters_of Tryz.func117 (by kernel_rfl) rfl;have e32: ∀args w,(callFunc 120 args).run Tryz.prog w= .ok (.enter 120 args) w:=enters_of Tryz.func120 (by kernel_rfl) rfl;have e78: ∀args w,(callFunc 118 args).run Tryz.prog w= .ok (.enter 118 args) w:=enters_of Tryz.func118 (by kernel_rfl) rfl;have e80: ∀args w,(callFunc 116 args).run Tryz.prog w= .ok (.enter 116 args) w:=enters_of Tryz.func116 (by kernel_rfl) rfl
 go_enter Tryz.func121,Tryz.ntmps121
 go_wp2_with fail
 refine hC.mono ?_;rintro e w' ⟨rfl,hw⟩;rw[hw];clear hC
 go_wp2_with fail
 rw[show (s.size:Int)+ -(K:Int)=((s.size-K:Nat):Int) by omega];refine (qf6 w.heap.size (s.size-K) _ (heap_alloc_new w _) (by simp) om).mono ?_;rintro e w1 ⟨rfl,hb0,hb1⟩;have H1:=jY (Or.inr hb0:Lib.IsBuilder 158 5 w.heap.size w.heap.size (Lib.byteCells []) w1);have Hb1:=jY (((Below.refl w.heap.size w).alloc (nlr _) _).trans hb1);clear hb0 hb1 hga
 go_wp2_with fail
 go_loopg [11,53] K (λg s11 s53 wx=> ∃(i start:Nat) (acc:List UInt8),s53= .int .i64 i∧s11= .int .i64 start∧i+g=K∧start<=s.size∧
  Hid (Lib.IsBuilder 158 5 w.heap.size w.heap.size (Lib.byteCells acc) wx)∧Hid (Below w.heap.size w wx)∧Hid (acc++(s.data.toList.drop start).filter (· !=c)=s.data.toList.filter (· !=c))∧
  (s.data.toList.drop start).count c=g∧acc.length<=start)
 case atStart=>exact⟨0,0,[],rfl,rfl,om,nzl _,H1,Hb1,jY (by simp),hK,nlr _⟩
 case round=>
  obtain⟨i,start,acc,rfl,rfl,hig,hst,HB,HW,HR,hgc,hbd⟩:=hrel;have hBw:w.heap.size<=wr.heap.size:=HW.out.size;have c1:(0:Int)<=(start:Int):=by omega
  have c2:(start:Int)<=(s.size:Int):=by omega
  cases gk with
  |zero=>
   have hiK: ¬((i:Int)<(K:Int)):=by omega
   go_wp2_with fail
   refine (qct w.heap.size w.heap.size _ _ wr HB.out (by rw[Lib.byteCells_length,ByteArray.size_extract];omega) hBw).mono ?_;rintro e w3 ⟨rfl,h3,hb3⟩;rw[Lib.strCells_eq,Lib.extract_to_end,<-Lib.byteCells_append]at h3;have hfin:acc++s.data.toList.drop start=s.data.toList.filter (· !=c):=by
    rw[<-HR.out];congr 1;refine (List.filter_eq_self.2 λa ha=> ?_).symm
    have:=List.count_eq_zero.1 hgc
    simp only[bne_iff_ne,ne_eq];rintro rfl;exact this ha
   rw[hfin]at h3;have H3:=jY (Or.inr h3:Lib.IsBuilder 158 5 w.heap.size w.heap.size _ w3);have Hb3:=jY (HW.out.trans hb3);have hBw3:w.heap.size<=w3.heap.size:=Hb3.out.size;clear h3 hb3 hfin
   go_wp2_with fail
   refine (qoJ w.heap.size w.heap.size _ w3 H3.out hBw3).mono ?_;rintro e w5 ⟨rfl,hb5⟩;have Hb5:=jY (Hb3.out.trans hb5);clear hb5
   go_wp2
   go_ret
   exact⟨rfl,Hb5.out⟩
  |succ g=>
   have hiK:(i:Int)<(K:Int):=by omega
   have hj:=HY.index_cut c (s.data.toList.drop start) om;have hjl:=HY.cutAt_lt c (s.data.toList.drop start) om;have hjc:=HY.count_cut c (s.data.toList.drop start) om;have hjf:=qfW c (s.data.toList.drop start) om;obtain⟨j,hjd⟩: ∃j,HY.cutAt c (s.data.toList.drop start)=j:=⟨_,rfl⟩
   rw[hjd]at hj hjl hjc hjf;rw[List.length_drop,hlenL]at hjl;rw[List.drop_drop]at hjc hjf;have c3:(start:Int)<=(start:Int)+(j:Int):=by omega
   have c4:(start:Int)+(j:Int)<=(s.size:Int):=by omega
   have hnext:Lib.byteCells acc++Lib.strCells (s.extract start (start+j))=Lib.byteCells (acc++(s.data.toList.drop start).take j):=by
    rw[Lib.strCells_eq,Lib.extract_data,Nat.add_sub_cancel_left,<-Lib.byteCells_append]
   have Hrep:=jY (show (acc++(s.data.toList.drop start).take j)++(s.data.toList.drop (start+j+1)).filter (· !=c)=s.data.toList.filter (· !=c) by
    rw[<-HR.out,hjf,List.append_assoc,Nat.add_assoc])
   have hcnt:(s.data.toList.drop (start+j+1)).count c=g:=by rw[Nat.add_assoc,hjc];omega
   have htl:((s.data.toList.drop start).take j).length<=j:=List.length_take_le _ _;have Hn:=jY hnext;clear hnext HR
   go_wp2_with fail
   refine (hI _ _).mono ?_;rintro e w' ⟨rfl,hw⟩;rw[hw,Lib.extract_to_end,hj]
   go_wp2_with fail
   refine (qct w.heap.size w.heap.size _ (s.extract start (start+j)) wr HB.out (by rw[Lib.byteCells_length,ByteArray.size_extract];omega) hBw).mono ?_;rintro e w3 ⟨rfl,h3,hb3⟩;rw[Hn.out]at h3;have hBw3:w.heap.size<=w3.heap.size:=Nat.le_trans hBw hb3.size;have H3:=jY h3;have Hb3:=jY hb3;clear h3 hb3
   go_wp2_with fail
   refine (qct w.heap.size w.heap.size _ new w3 (Or.inr H3.out) (by rw[Lib.byteCells_length,lap,hns];omega) hBw3).mono ?_;rintro e w4 ⟨rfl,h4,hb4⟩;rw[hnc,lan]at h4;have H4:=jY (Or.inr h4:Lib.IsBuilder 158 5 w.heap.size w.heap.size _ w4);have Hb4:=jY ((HW.out.trans Hb3.out).trans hb4);clear h4 hb4
   go_wp2
   go_roundg g
   case measure=>omega
   case rel=>exact⟨i+1,start+j+1,_,by first|rfl|(simp;unfold wrap64;omega),by first|rfl|(simp;unfold wrap64;omega),om,om,H4,Hb4,Hrep,hcnt,by rw[lap];omega⟩
theorem qkr(s:ByteArray)(c:UInt8)(w:World)(hs:s.size<4294967281):
  Calls Tryz.prog 121 #[.string s,.string ⟨#[c]⟩,.string ⟨#[]⟩,.int .i64 (-1)] w λe w'=>
   e= .returned (.string ⟨(s.data.toList.filter (· !=c)).toArray⟩)∧Below w.heap.size w w':=by
 by_cases h:s.data.toList.count c=0
 ·have e:s.data.toList.filter (· !=c)=s.data.toList:=List.filter_eq_self.2 λa ha=>by
   simp only[bne_iff_ne,ne_eq];rintro rfl;exact List.count_eq_zero.1 h ha
  rw[e];have hC:=qcK s c w;rw[show Lib.countByte s.data.toList c=0 from h]at hC;have e82: ∀args w,(callFunc 163 args).run Tryz.prog w= .ok (.enter 163 args) w:=enters_of Tryz.func163 (by kernel_rfl) rfl
  go_enter Tryz.func121,Tryz.ntmps121
  go_wp2_with fail
  refine hC.mono ?_;rintro e w' ⟨rfl,hw⟩;rw[hw]
  go_wp2_with fail
  go_ret
  exact⟨rfl,Below.refl _ _⟩
 ·exact qon s _ _ c rfl rfl w hs h
theorem qdc(s:ByteArray)(c:UInt8)(w:World)(hs:s.size<4294967281):
  Calls Tryz.prog 65 #[.string s,.string ⟨#[c]⟩,.string ⟨#[]⟩] w λe w'=>
   e= .returned (.string ⟨(s.data.toList.filter (· !=c)).toArray⟩)∧Below w.heap.size w w':=by
 have e48: ∀args w,(callFunc 121 args).run Tryz.prog w= .ok (.enter 121 args) w:=enters_of Tryz.func121 (by kernel_rfl) rfl
 go_enter Tryz.func65,Tryz.ntmps65
 go_wp2_with fail
 refine (qkr s c _ hs).mono ?_;rintro e w' ⟨rfl,hw⟩
 go_wp2_with fail
 go_ret
 exact⟨rfl,hw⟩
end Go.Proofs
open Go Go.Proofs AF HY LN
namespace RC
theorem qCN(s:Str)(h:we)(hs:s.length<4294967281):ACalls Tryz.prog 65 [.str s,.str [32],.str []] h (.str (s.filter (· !=32))) h:=by
 refine⟨qnE Tryz.func65 (by kernel_rfl) (by kernel_rfl),λw σ xs H hv=> ?_⟩;obtain⟨x,y,z,rfl,hx,hy,hz⟩:=hv.three;rw[jh hx,jh hy,jh hz];refine (callsIn_wide.2 (qdc ⟨s.toArray⟩ 32 w ?_)).mono ?_
 ·show s.toArray.size<_;simpa using hs
 ·rintro e w' ⟨rfl,hb⟩;obtain⟨g1,g2⟩:=Ext.ofBelow H hb;exact⟨_,σ,rfl,g1,.imm .str,g2⟩
end RC
end
section
open Go Go.Proofs AF
def qnp:List Nat:= []
def qzw:C:=
 (vS [O1 1 (.box 0 75) 0,MC 2 (.bool false)] (vS [O1 19 (.load (some 7)) 1,O1 20 (.call 64 true) 19,MV 18 20,O1 21 (.ext 0) 18,O1 22 (.ext 1) 18,MV 3 21,MV 4 22] ((vS [MV 23 4,O1
 24 (.un UnOp.not) 23,MV 25 24,vZ 26 25 6 1,v6 27 25 26,vR 28 25 (.bin .lss) 27 (i6 0),PT 29 25 28,MV 30 29,vZ 31 30 6 1,v6 32 30 31,vZ 33 30 0 1,vZ 34 30 1 33,v6 35 30 34,vO 36
 30 .len 35,vP 37 30 (.bin .geq) 32 36,PT 38 30 37] (vT 38 (vV [ON 39 (.call 40 true) [],MV 2 39]))).seq ((vS [vL 40 4 1,LD 41 40,O1 42 .len 41,vM 43 0] (C.block 0 (vS [BI 44
 .lss 43 42] ((vU 44 0).seq ((C.block 1 (vS [MV 45 43,O2 46 (.idxA 3) 41 43,O1 47 (.load (some 3)) 46,⟨some 6,none,.alloc 1 64 [i6 0,i6 0,.nl],[]⟩,MV 5 45,ST 3 6 47] (vS [vL 48
 6 1,LD 49 48,MV 7 49,MC 8 (.str []),vM 9 1] ((vS [vL 50 5 1,LD 51 50,O1 52 .len 51,vM 53 0] (C.block 2 (vS [BI 54 .lss 53 52] ((vU 54 2).seq ((C.block 3 (vS [O2 55 (.idxA 4) 51
 53,O1 56 (.load (some 4)) 55,⟨some 11,none,.alloc 2 43 [i6 0,.str [],i6 0,.str []],[]⟩,ST 4 11 56] (vS [vL 58 0 1,O1 59 (.load (some 4)) 58,vL 60 4 1,LD 61 60,O1 62 (.load
 (some 4)) 11,ON 63 (.call 20 true) [.t 59,.t 61,.t 62],MV 57 63,O1 64 (.ext 0) 57,O1 65 (.ext 1) 57,MV 12 64,MV 13 65] ((vS [MV 66 13,vN 67 .neq 66 0] (vT 67 (vV [MC 2 (.bool
 false)]))).seq (vS [MV 68 12,MV 69 5,BI 70 .eql 68 69] (vT 70 (vW [vL 71 0 1,vL 72 1 71,LD 73 72,vL 74 1 11,LD 75 74,O2 76 (.call 22 true) 73 75,vL 77 3 11,LD 78 77,vL 79 0
 11,LD 80 79,MV 7 76,MV 8 78,MV 9 80]))))))).seq (vW [vN 81 .add 53 1,MV 53 81])))).loop)).seq (vS [vL 83 0 1,O1 84 (.load (some 4)) 83,vL 85 4 1,LD 86 85,MV 87 3,MV 88 5,ON 89
 (.call 52 true) [.t 84,.t 86,.t 87,.t 88],MV 82 89,O1 90 (.ext 0) 82,O1 91 (.ext 1) 82,MV 14 90,MV 15 91] ((vS [MV 92 15,vN 93 .neq 92 0,MV 94 93,vQ 95 94 7,vR 96 94 (.bin
 .lss) 95 (i6 0),PT 97 94 96] (vT 97 (vV [MC 2 (.bool false)]))).seq (vS [MV 98 9] (C.block 4 (vS [vN 110 .eql 98 1,MV 109 110] (C.cond (.t 109) (vS [O1 112 (.load (some 3))
 6,MV 113 7,O2 114 (.call 59 true) 112 113,MV 111 114,O1 115 (.ext 0) 111,O1 116 (.ext 1) 111,MV 16 115,MV 17 116] (vS [MV 117 17,vN 118 .neq 117 0,MV 119 118,vQ 120 119 16,vR
 121 119 (.bin .lss) 120 (i6 0),PT 122 119 121,MV 123 122,vQ 124 123 16,vZ 125 123 2 6,v6 126 123 125,vO 127 123 .len 126,vP 128 123 (.bin .geq) 124 127,PT 129 123 128,MV 130
 129,vQ 131 130 14,vZ 132 130 2 6,v6 133 130 132,vQ 134 130 16,vP 135 130 (.idxA 2) 133 134,vZ 136 130 0 135,v6 137 130 136,vP 138 130 (.call 36 true) 131 137,vO 139 130 (.un
 UnOp.not) 138,PT 140 130 139] (vT 140 (vV [MC 2 (.bool false)])))) (vS [vN 142 .eql 98 3,MV 141 142] (C.cond (.t 141) (vS [MV 143 14,O1 144 .len 143,vN 145 .neq 144 0] (vT 145
 (vV [MC 2 (.bool false)]))) (vS [MV 99 14,OC 100 (.call 61 true) 99 (.str []),MV 101 8,ON 102 (.call 65 true) [.t 101,.c (.str [32]),.c (.str [])],BI 103 .neq 100 102,MV 104
 103,vQ 105 104 14,vO 106 104 .len 105,vR 107 104 (.bin .eql) 106 (i6 0),PT 108 104 107] (vT 108 (vV [MC 2 (.bool false)]))))))))))))))).seq (vW [vN 146 .add 43 1,MV 43
 146])))).loop)).seq (vV [ON 147 (.call 40 true) [],MV 2 147])))))
theorem qv3:qJ Tryz.prog 13 148 3 [RV.tmp 2] qzw:=fi Tryz.f13 [1,6,11] qnp []
end
section
open Go Go.Proofs AF HY LN
namespace RC
theorem qAz(c:UInt8):(!decide (kind c=6))=(c !=32):=by
 by_cases h:c=32
 ·subst h;rfl
 ·have h2:c.toNat≠32:=λe=>h (UInt8.toNat_inj.1 e)
  have h3:kind c≠6:=by
   unfold kind qbP
   repeat' split
   all_goals omega
  rw[dqf h3,bne_iff_ne.2 h];rfl
theorem qga(L:List Str):Lib.join L []=L.flatten:=by
 cases L with
 |nil=>rfl
 |cons x r=>
  rw[Lib.join_cons];unfold Lib.joinTail;have e:(r.map (([]:Str)++ ·))=r:=by
   have:(λy:Str=>([]:Str)++y)=id:=rfl
   rw[this,List.map_id]
  rw[e,List.flatten_cons]
theorem qli(t:Str):Lib.join ((qaJ t).map Tk.text) []=t.filter (· !=32):=by
 rw[qga,qo0];congr 1;funext c;exact qAz c
theorem qxI{x:Co}{l:List Un}{d:List Dc}{s:Int}{k B:Nat}(h: ∀o∈d,o.txt.length<=B): ∀n,n<=d.length->(ldD x l d s k n).t.length<=B:=by
 intro n
 induction n with
 |zero=>intro _;exact nzl _
 |succ n ih=>
  intro hn;unfold ldD;split
  ·exact h _ (jc hn)
  ·exact ih om
theorem qxG(a:Cq)(h:we)(hp:kJ SG h)(hg:zQ h frmN frmC)(hb:CqB a):ACalls Tryz.prog 13 [.agg (cqC a)] h (.bool true) h:=by
 have c1:=λl'=>qAE a (h++l') hb (hp.app l') hg.app
 have c2:=λl'=>qzr (h++l') (hp.app l') hg.app
 obtain⟨B,hB⟩:=wc (mdB a)
 obtain⟨R,hR⟩:=wc (mdR a)
 simp only[<-hB,<-hR]at c1;unfold cqC at c1;cases B with
 |false=>
  refine acO qv3 ?_;simp (disch:=omega) only[qzw,cqC,go_sem]
  repeat' first|((first|refine cA (c1 _) ?_ ?_|refine cG (λe=>c1 _) ?_ ?_|refine cA (c2 _) ?_ ?_|refine cG (λe=>c2 _) ?_ ?_|refine cU (λ_=>c1 _) ?_ ?_|refine cU (λ_=>c2 _) ?_ ?_);exact flk;simp (disch:=omega) only[cqC,go_sem])|((first|apply qb|apply qe);exact rvk;simp only[go_sem];first|exact qi|apply qh|apply qd|apply kV|skip)|(with_reducible first|intro _|apply aiA)|exact clz|fail
 |true=>
 obtain⟨z,e0,E,hRe⟩:=qAF hB.symm;rw[<-hR]at hRe;have zx:=z.x;have zu:=z.l;have zd:=z.d;have zt:=z.t;obtain⟨s,hs⟩: ∃s:Nat,a.lead=s:=⟨a.lead.toNat,om⟩
 rw[hs]at c1;rw[hs,itn]at E hRe;have hln:=E.ln;have hsl:=E.sl;have hva:=E.va;have hlen:R.length=(rwA a.x a.l a.d s).length:=by rw[hRe,kX]
 have FU:=λj hj=>qvQ E (j:=j) hj
 have FO:=λk hk=>qxV E (k:=k) hk
 have FR:=λk t hk ht=>qx8 (k:=k) (s:=t) E.us hk ht
 rw[<-hRe]at FO;have zl1: ∀g,valL g .len [zM a.l]= .int .i64 a.l.length:=λ_=>rfl
 have zl2: ∀g,okL g .len [zM a.l]=True:=λ_=>eqt trivial
 have zg1: ∀g,valL g .len [strs a.x.sig]= .int .i64 a.x.sig.length:=λ_=>rfl
 have zg2: ∀g,okL g .len [strs a.x.sig]=True:=λ_=>eqt trivial
 have zD1: ∀g,valL g .len [kB a.d]= .int .i64 a.d.length:=λ_=>rfl
 have zD2: ∀g,okL g .len [kB a.d]=True:=λ_=>eqt trivial
 have w1:((s:Int)<0)=False:=wi;have w2:((a.x.sig.length:Int)<=s)=False:=wi;have hll:=zu.n;refine acO qv3 ?_;simp (disch:=omega) only[qzw,cqC,hs,go_sem]
 repeat' first|((first|refine cA (c1 _) ?_ ?_|refine cG (λe=>c1 _) ?_ ?_|refine cU (λ_=>c1 _) ?_ ?_);exact flk;simp (disch:=omega) only[cqC,hs,zl1,zl2,zg1,zg2,w1,w2,go_sem])|((first|apply qb|apply qe);exact rvk;simp only[go_sem];first|exact qi|apply qh|apply qd|apply kV|skip)|(with_reducible first|intro _|apply aiA)|exact clz|fail
 have zu0:zM a.l= .sl a.l.length λi=>unC (a.l.getD i default):=rfl
 have zd0:kB a.d= .sl a.d.length λi=>dcC (a.d.getD i default):=rfl
 refine qr (T:=λi:Nat×AObj×AObj=>qX 148 [(1,.op h.length 1 0),(3,Sl R),(41,zM a.l),(42,.int .i64 a.l.length),(43,.int .i64 i.1)])
  (H:=λi=>h++ [.mem 1 75 [.str a.x.sec,strs a.x.sig,qm a.x.tok,qw a.x.col,zM a.l,kB a.d,.int .i64 (s:Int)],i.2.1,i.2.2])
  (inv:=λi=>i.1<=a.l.length∧qI [i.2.1] 0=true∧qI [i.2.2] 0=true) (m:=λi=>a.l.length-i.1) (0,.emp 0,.emp 0) ⟨nzl _,rfl,rfl⟩ (Wk.temps ?_) ?_
 ·(simp only[go_sem,qg,qc,qa,qf];try exact wa)
 rintro⟨i,O1,O2⟩ ⟨i1,i2,i3⟩ K hK;simp only at i1 i2 i3 hK;have i2': ∀m,qI (O1::m) 0=true:=λ_=>i2
 have i3': ∀m,qI (O2::m) 0=true:=λ_=>i3
 by_cases hi:i<a.l.length
 case neg=>
  have k1:((i:Int)<a.l.length)=False:=wi;simp (disch:=omega) only[k1,go_sem]
  repeat' first|((first|refine cA (c2 _) ?_ ?_|refine cG (λe=>c2 _) ?_ ?_|refine cU (λ_=>c2 _) ?_ ?_);exact flk;simp (disch:=omega) only[k1,go_sem])|((first|apply qb|apply qe);exact rvk;simp only[go_sem];first|exact qi|apply qh|apply qd|apply kV|skip)|(with_reducible first|intro _|apply aiA)|exact clz|fail
 have k1:((i:Int)<a.l.length)=True:=wh;have k3:(0<=(i:Int))=True:=wh;have hol:=qxT R (i:Int) R.length;have c4:=λl'=>rdD a.x a.l R i (h++l') zx zu om (hp.app l') E.ca hva hi
 obtain⟨p1,p2,p3,p4,p5⟩:=FO i hi;have hlt:=qxI (x:=a.x) (l:=a.l) (s:=s) (k:=i) zt a.d.length (nlr _);obtain⟨j,j1,j2,j3,_⟩:=FR i (ldD a.x a.l a.d s i a.d.length).s.toNat hi om;have hrd:=zu.rd i;have hsr:=zu.sr i;obtain⟨W,hW⟩:=wc (owG R (i:Int) R.length)
 rw[<-hW]at c4 p3 p4 p5 hol;have c5:=λh=>eqS W h om
 obtain⟨u,hu⟩:=wc (a.l.getD i default)
 have eu:=hu.symm;simp only[eu]at hrd hsr j1 j2 j3;unfold coC at c4;have zr0:jq u.rds= .sl u.rds.length λi=>rdC (u.rds.getD i default):=rfl
 have zq1: ∀g,valL g .len [jq u.rds]= .int .i64 u.rds.length:=λ_=>rfl
 have zq2: ∀g,okL g .len [jq u.rds]=True:=λ_=>eqt trivial
 have zW1: ∀g,valL g .len [strs W]= .int .i64 W.length:=λ_=>rfl
 have zW2: ∀g,okL g .len [strs W]=True:=λ_=>eqt trivial
 obtain⟨V,hV⟩:=wc (qq (some O1)+1)
 simp (disch:=omega) only[zu0,unC,k1,k3,eu,i2',i3',zD1,zD2,go_sem]
 repeat' first|((first|apply qb|apply qe);exact rvk;simp only[go_sem];first|exact qi|apply qh|apply qd|apply kV|skip)|(with_reducible first|intro _|apply aiA)|exact clz|fail
 rw[<-hV];refine qr (T:=λn:Nat×AObj=>qX 148 [(1,.op h.length 1 0),(3,Sl R),(5,.int .i64 i),(6,.op (h.length+1) V 0),(7,.int .i64 (ldD a.x a.l a.d s i n.1).s),(8,.str (ldD a.x a.l a.d s i n.1).t),(9,.int .i64 (ldD a.x a.l a.d s i n.1).k),(41,zM a.l),(42,.int .i64 a.l.length),(43,.int .i64 i),(51,kB a.d),(52,.int .i64 a.d.length),(53,.int .i64 n.1)])
  (H:=λn=>h++ [.mem 1 75 [.str a.x.sec,strs a.x.sig,qm a.x.tok,qw a.x.col,zM a.l,kB a.d,.int .i64 (s:Int)],.mem V 64 [.int .i64 u.frm,.int .i64 u.to,jq u.rds],n.2])
  (inv:=λn=>n.1<=a.d.length∧qI [n.2] 0=true) (m:=λn=>a.d.length-n.1) (0,O2) ⟨nzl _,i3⟩ (Wk.temps ?_) ?_
 ·(simp only[ldD,go_sem,qg,qc,qa,qf];try exact wa)
 rintro⟨n,P⟩ ⟨n1,n2⟩ K2 hK2;simp only at n1 n2 hK2;have n2': ∀m,qI (P::m) 0=true:=λ_=>n2
 by_cases hn:n<a.d.length
 ·have m1:((n:Int)<a.d.length)=True:=wh;have c7:=λl'=>qC8 a.x a.l (a.d.getD n default) (h++l') zx zu (hp.app l') hg.app (Nat.le_trans (zt _ (jc hn)) om)
  obtain⟨f1,f2⟩:=FU n hn;simp only[f1,f2]at c7;have hld:ldD a.x a.l a.d s i (n+1)=if kK a.x a.l (a.d.getD n default)=i then ⟨zC a.x (a.d.getD n default).sig,(a.d.getD n default).txt,(a.d.getD n default).kind⟩ else ldD a.x a.l a.d s i n:=rfl
  obtain⟨p,hpp⟩:=wc (kK a.x a.l (a.d.getD n default))
  simp only[<-hpp]at c7 hld;obtain⟨o,ho⟩:=wc (a.d.getD n default)
  have eo:=ho.symm;simp only[eo]at c7 hld;have c8: ∀h,ACalls Tryz.prog 22 [strs a.x.sig,.str o.sig] h (.int .i64 (zC a.x o.sig)) h:=λh=>qnt a.x.sig.length (λj=>a.x.sig.getD j []) o.sig h (by have:=zx.sg;omega)
  unfold coC dcC at c7
  by_cases e:p=(i:Int)
  ·have m2:(p=(i:Int))=True:=eqt e;rw[ipo e]at hld;simp (disch:=omega) only[zd0,dcC,m1,eo,n2',go_sem]
   repeat' first|((first|refine cA (c7 _) ?_ ?_|refine cG (λe=>c7 _) ?_ ?_|refine cA (c8 _) ?_ ?_|refine cG (λe=>c8 _) ?_ ?_|refine cU (λ_=>c7 _) ?_ ?_|refine cU (λ_=>c8 _) ?_ ?_);exact flk;simp (disch:=omega) only[zd0,dcC,m1,m2,eo,n2',go_sem])|((first|apply qb|apply qe);exact rvk;simp only[go_sem];first|exact qi|apply qh|apply qd|apply kV|skip)|(with_reducible first|intro _|apply aiA)|exact clz|fail
   refine hK2 _ _ (n+1,.mem (qq (some P)+1) 43 (dcC o)) ⟨hn,rfl⟩ (by simp only;omega) ?_;simp only[hld,dcC];refine Wk.temps ?_
   (simp only[go_sem,qg,qc,qa,qf];try (repeat' first|(with_reducible apply aiA)|(apply qh;omega)|(apply qd;rfl)|exact qi))
  ·have m2:(p=(i:Int))=False:=eqf e;rw[ine e]at hld;simp (disch:=omega) only[zd0,dcC,m1,eo,n2',go_sem]
   repeat' first|((first|refine cA (c7 _) ?_ ?_|refine cG (λe=>c7 _) ?_ ?_|refine cU (λ_=>c7 _) ?_ ?_);exact flk;simp (disch:=omega) only[zd0,dcC,m1,m2,eo,n2',go_sem])|((first|apply qb|apply qe);exact rvk;simp only[go_sem];first|exact qi|apply qh|apply qd|apply kV|skip)|(with_reducible first|intro _|apply aiA)|exact clz|fail
   refine hK2 _ _ (n+1,.mem (qq (some P)+1) 43 (dcC o)) ⟨hn,rfl⟩ (by simp only;omega) ?_;simp only[hld,dcC];refine Wk.temps ?_
   (simp only[go_sem,qg,qc,qa,qf];try (repeat' first|(with_reducible apply aiA)|(apply qh;omega)|(apply qd;rfl)|exact qi))
 have m1:((n:Int)<a.d.length)=False:=wi;obtain rfl:n=a.d.length:=by omega
 obtain⟨q,hq⟩:=wc (ldD a.x a.l a.d s i a.d.length)
 rw[<-hq]at p1 p2 p3 p4 p5 hlt j1 j3 ⊢;have m3:(q.s<0)=False:=wi;have fin: ∀t' O,qI [O] 0=true->Wk t' (h++ [.mem 1 75 [.str a.x.sec,strs a.x.sig,qm a.x.tok,qw a.x.col,zM a.l,kB a.d,.int .i64 (s:Int)],.mem V 64 [.int .i64 u.frm,.int .i64 u.to,jq u.rds],O])
   (qX 148 [(1,.op h.length 1 0),(3,Sl R),(41,zM a.l),(42,.int .i64 a.l.length),(43,.int .i64 ((i+1:Nat):Int))]) (h++ [.mem 1 75 [.str a.x.sec,strs a.x.sig,qm a.x.tok,qw a.x.col,zM a.l,kB a.d,.int .i64 (s:Int)],.mem V 64 [.int .i64 u.frm,.int .i64 u.to,jq u.rds],O])->
   K t' (h++ [.mem 1 75 [.str a.x.sec,strs a.x.sig,qm a.x.tok,qw a.x.col,zM a.l,kB a.d,.int .i64 (s:Int)],.mem V 64 [.int .i64 u.frm,.int .i64 u.to,jq u.rds],O]):=λt' O hO hw=>
  hK _ _ (i+1,.mem V 64 [.int .i64 u.frm,.int .i64 u.to,jq u.rds],O) ⟨hi,rfl,hO⟩ (by simp only;omega) hw
 by_cases g1:q.k=1
 ·have m4:(q.k=1)=True:=eqt g1;have c9:=λh=>qCG u q.s h hrd hsr
  rw[Int.toNat_of_nonneg p2.1]at j1;have r1:qoc u.rds q.s=(j:Int):=by unfold qoc;rw[j1,ine om]
  have r2:qob u.rds q.s=0:=by unfold qob;rw[j1,ine om]
  rw[r1,r2]at c9;have eW:(u.rds.getD j default).words=W:=by rw[j3,p3 g1]
  have m5:((j:Int)<0)=False:=wi;have m6:((u.rds.length:Int)<=j)=False:=wi;have m7:((j:Int)<u.rds.length)=True:=wh;have m8:(0<=(j:Int))=True:=wh;unfold unC at c9;simp (disch:=omega) only[m1,go_sem]
  repeat' first|((first|refine cA (c4 _) ?_ ?_|refine cG (λe=>c4 _) ?_ ?_|refine cA (c9 _) ?_ ?_|refine cG (λe=>c9 _) ?_ ?_|refine cA (c5 _) ?_ ?_|refine cG (λe=>c5 _) ?_ ?_|refine cU (λ_=>c4 _) ?_ ?_|refine cU (λ_=>c9 _) ?_ ?_|refine cU (λ_=>c5 _) ?_ ?_);exact flk;simp (disch:=omega) only[m1,m3,m4,zr0,rdC,eW,m5,m6,m7,m8,zq1,zq2,go_sem])|((first|apply qb|apply qe);exact rvk;simp only[go_sem];first|exact qi|apply qh|apply qd|apply kV|skip)|(with_reducible first|intro _|apply aiA)|exact clz|fail
  refine fin _ _ n2 (Wk.temps ?_)
  (simp only[go_sem,qg,qc,qa,qf];try (repeat' first|(with_reducible apply aiA)|(apply qh;omega)|(apply qd;rfl)|exact qi))
 have m4:(q.k=1)=False:=eqf g1
 by_cases g3:q.k=3
 ·have m5:(q.k=3)=True:=eqt g3;have hW0:W.length=0:=by rw[p4 g3];rfl
  simp (disch:=omega) only[m1,go_sem]
  repeat' first|((first|refine cA (c4 _) ?_ ?_|refine cG (λe=>c4 _) ?_ ?_|refine cU (λ_=>c4 _) ?_ ?_);exact flk;simp (disch:=omega) only[m1,m3,m4,m5,zW1,zW2,hW0,go_sem])|((first|apply qb|apply qe);exact rvk;simp only[go_sem];first|exact qi|apply qh|apply qd|apply kV|skip)|(with_reducible first|intro _|apply aiA)|exact clz|fail
  refine fin _ _ n2 (Wk.temps ?_)
  (simp only[go_sem,qg,qc,qa,qf];try (repeat' first|(with_reducible apply aiA)|(apply qh;omega)|(apply qd;rfl)|exact qi))
 have m5:(q.k=3)=False:=eqf g3;obtain⟨w3,w4⟩:=p5 om;have hWn:W.length≠0:=by rw[w3,List.length_map];exact λe=>w4 (List.eq_nil_of_length_eq_zero e)
 have hJ:=qli q.t;rw[<-w3]at hJ;obtain⟨J,hJJ⟩:=wc (q.t.filter (· !=32))
 have hJl:J.length<=30:=by rw[hJJ];exact Nat.le_trans (List.length_filter_le _ _) hlt
 have c10:=λh=>joP W [] h (by rw[hJ,<-hJJ];omega) om
 have c11:=λh=>qCN q.t h om
 rw[hJ,<-hJJ]at c10;rw[<-hJJ]at c11;have m6:(J=J)=True:=eqt rfl;have m7:((W.length:Int)=0)=False:=wi;simp (disch:=omega) only[m1,go_sem]
 repeat' first|((first|refine cA (c4 _) ?_ ?_|refine cG (λe=>c4 _) ?_ ?_|refine cA (c10 _) ?_ ?_|refine cG (λe=>c10 _) ?_ ?_|refine cA (c11 _) ?_ ?_|refine cG (λe=>c11 _) ?_ ?_|refine cU (λ_=>c4 _) ?_ ?_|refine cU (λ_=>c10 _) ?_ ?_|refine cU (λ_=>c11 _) ?_ ?_);exact flk;simp (disch:=omega) only[m1,m3,m4,m5,zW1,zW2,m6,m7,go_sem])|((first|apply qb|apply qe);exact rvk;simp only[go_sem];first|exact qi|apply qh|apply qd|apply kV|skip)|(with_reducible first|intro _|apply aiA)|exact clz|fail
 refine fin _ _ n2 (Wk.temps ?_)
 (simp only[go_sem,qg,qc,qa,qf];try (repeat' first|(with_reducible apply aiA)|(apply qh;omega)|(apply qd;rfl)|exact qi))
end RC
end
section
open Go Go.Proofs AF HY Go.ChangeShapes Go.RowKit
namespace LN
theorem qAt : Tryz.prog.globalNamed "internal/strconv.uint64pow10" = some 3 := by kernel_rfl
theorem qAv : Tryz.prog.globalNamed "strconv.ErrSyntax" = some 7 := by kernel_rfl
theorem qAu : Tryz.prog.globalNamed "strconv.ErrRange" = some 8 := by kernel_rfl
theorem qBE : Tryz.prog.globalNamed "apograph/transcript.forms" = some 4 := by kernel_rfl
theorem qn1{w w':World}(h:qqe w)(e:w'.heap[3]? =w.heap[3]?):qqe w':=by
 unfold qqe Lib.TabIs at*;rw[qcj qAt e];exact h
theorem qec : "*" ++ "errors.errorString" = "*errors.errorString" := by decide
theorem qp6 (u : TypeId) (h : Tryz.prog.typeName? 3 u = some "*errors.errorString") : u = 348 :=
 typeName_ptr_named (nm := "errors.errorString") (by rw [qec]; kernel_rfl) (by kernel_rfl) (by decide) u (by rw [qec]; exact h)
structure Fr where
 s:List UInt8
 a:Bool
 b:Bool
 c:Bool
def Fr.av(r:Fr):wg:= [.str r.s,.bool r.a,.bool r.b,.bool r.c]
def Fr.vl(r:Fr):List Value:= [.string ⟨r.s.toArray⟩,.bool r.a,.bool r.b,.bool r.c]
def Fr.da{H:Type}(r:Fr):DataW H:= .agg [.lit (.string r.s),.lit (.bool r.a),.lit (.bool r.b),.lit (.bool r.c)]
def frL:List Fr:= [⟨[],false,false,false⟩,⟨[],true,false,false⟩,⟨[108,98],false,false,false⟩,⟨[112,98],true,false,false⟩,⟨[115,101,99],true,false,false⟩,⟨[118],false,false,false⟩,
 ⟨[103,97,112],false,true,false⟩,⟨[117,110,99,108,101,97,114],false,false,true⟩,⟨[97,100,100],false,true,true⟩,⟨[100,101,108],false,true,true⟩,⟨[97,98],true,false,true⟩,⟨[110,97,109,101],true,false,true⟩]
theorem qxk:RC.frmC=frL.flatMap Fr.av:=rfl
theorem qxl:(YtiiegfkjmnoijaaGreatDoor.Rows.laid_apograph_transcript_forms:DataW Unit)= .agg (frL.map Fr.da):=rfl
theorem qz6{α β:Type}{f:α->List β}(hf: ∀a,(f a).length=4): ∀(l:List α) (i j:Nat),j<4->(l.flatMap f)[i*4+j]? =(l[i]?).bind λa=>(f a)[j]? :=by
 intro l
 induction l with
 |nil=>intro i j _;simp
 |cons a l ih=>
  intro i j hj;rw[List.flatMap_cons];cases i with
  |zero=>
   rw[Nat.zero_mul,Nat.zero_add,List.getElem?_append_left (by rw[hf];exact hj)];rfl
  |succ i=>
   rw[List.getElem?_append_right (by rw[hf];omega),hf,show (i+1)*4+j-4=i*4+j by omega,ih i j hj];rfl
theorem qa8:Tryz.prog.cellsOf 324=4:=by kernel_rfl
theorem qdH:Tryz.prog.cellsOf 325=48:=by kernel_rfl
theorem qmx:Tryz.prog.cellsOf 9=1:=by kernel_rfl
theorem qmv:Tryz.prog.cellsOf 4=1:=by kernel_rfl
theorem qyi{H:Type}{enc:TypeId×Value->H}{w:World}{base fuel:Nat}{spare:Nat->Bool}{held:Bool}{cs:List Value}{x:DataW H×List MemPlace}{r:Fr}
  (h:DataW.trod enc Tryz.prog w base spare held fuel 324 cs=some x) (hx:x.1=r.da):cs=r.vl:=by
 obtain⟨xs,n,_,hxe,hl,hxl,hf⟩:=DataW.trod_struct Tryz.underlying324 h;rw[qa8]at hl
 match cs,hl with
 | [v0,v1,v2,v3],_=>
 match xs,hxl with
 | [y0,y1,y2,y3],_=>
  have h0:DataW.trod enc Tryz.prog w base spare held n 9 (([v0,v1,v2,v3].drop 0).take (Tryz.prog.cellsOf 9))= [y0,y1,y2,y3][0]? :=hf 0 _ rfl;have h1:DataW.trod enc Tryz.prog w base spare held n 4 (([v0,v1,v2,v3].drop 1).take (Tryz.prog.cellsOf 4))= [y0,y1,y2,y3][1]? :=hf 1 _ rfl;have h2:DataW.trod enc Tryz.prog w base spare held n 4 (([v0,v1,v2,v3].drop 2).take (Tryz.prog.cellsOf 4))= [y0,y1,y2,y3][2]? :=hf 2 _ rfl;have h3:DataW.trod enc Tryz.prog w base spare held n 4 (([v0,v1,v2,v3].drop 3).take (Tryz.prog.cellsOf 4))= [y0,y1,y2,y3][3]? :=hf 3 _ rfl;rw[qmx]at h0;rw[qmv]at h1 h2 h3;obtain⟨s,e0,x0,_⟩:=DataW.trod_string Tryz.underlying9 h0;obtain⟨b1,e1,x1⟩:=DataW.trod_bool Tryz.underlying4 h1;obtain⟨b2,e2,x2⟩:=DataW.trod_bool Tryz.underlying4 h2;obtain⟨b3,e3,x3⟩:=DataW.trod_bool Tryz.underlying4 h3;have hy:([y0,y1,y2,y3]:List (DataW H×List MemPlace)).map (·.1)= [.lit (.string r.s),.lit (.bool r.a),.lit (.bool r.b),.lit (.bool r.c)]:=by
   have hx:=hxe▸hx;exact DataW.agg.inj hx
  rw[x0,x1,x2,x3]at hy;simp at hy e0 e1 e2 e3;obtain⟨g0,g1,g2,g3⟩:=hy;unfold Fr.vl;subst e0 e1 e2 e3;rw[<-g0,g1,g2,g3]
theorem qAs {W : World} {rest : List (String × DataW Unit)} (h : laidMet Tryz.prog (("apograph/transcript.forms", YtiiegfkjmnoijaaGreatDoor.Rows.laid_apograph_transcript_forms) :: rest) W) : qfx 4 RC.frmC W := by
 obtain⟨ps,⟨g',t',cs,fuel,p,q,hg',ht',hvar,hd,_,_⟩,_⟩:=h;obtain rfl:=Option.some.inj (qBE.symm.trans hg');obtain rfl:325=t':=Option.some.inj ((show (Tryz.prog.globals[4]?).map (·.type)=some 325 by kernel_rfl).symm.trans ht');obtain⟨xs,m,_,hxe,hl,hxl,hr⟩:=DataW.trod_array Tryz.underlying325 hd;rw[qdH]at hl;have hxm:xs.map (·.1)=frL.map Fr.da:=by
  have:=congrArg Prod.fst hxe
  rw[qxl]at this;exact (DataW.agg.inj this).symm
 have rows: ∀i r,frL[i]? =some r->(cs.toList.drop (i*4)).take 4=r.vl:=λi r hi=>by
  have hil:i<12:=(lgs.1 hi).1;have e1:(xs.map (·.1))[i]? =some r.da:=by rw[hxm,List.getElem?_map,hi];rfl
  rw[List.getElem?_map,Option.map_eq_some_iff]at e1;obtain⟨y,hy,hy1⟩:=e1;have h1:=hr i hil;rw[hy,qa8]at h1;exact qyi h1 hy1
 have hv: ∃T fz,W.heap[4]? =some (.cells cs T fz):=by
  unfold World.var? at hvar;rw[qBE]at hvar;simp only[Option.bind_some]at hvar;split at hvar
  ·rename_i c T fz hc;cases hvar;exact⟨_,_,hc⟩
  ·cases hvar
 obtain⟨T,fz,hc⟩:=hv;refine⟨cs,T,fz,hc,?_,?_⟩
 ·have:cs.size=48:=by simpa using hl
  rw[this];exact Nat.le_of_eq rfl
 intro i c x hi hx;have hij:i=i/4*4+i%4:=by omega
 rw[qxk,hij,qz6 (λ_=>rfl) frL _ _ (Nat.mod_lt _ (by decide)),Option.bind_eq_some_iff]at hi;obtain⟨r,hr1,hr2⟩:=hi;have h2:=rows _ _ hr1;have h3:r.vl[i%4]? =some x:=by
  rw[<-h2,List.getElem?_take,ipo (Nat.mod_lt _ (by decide)),List.getElem?_drop,<-hij];simpa using hx
 have h4:i%4<4:=Nat.mod_lt _ (by decide);obtain⟨j,hj⟩:=wc (i%4)
 rw[<-hj]at hr2 h3 h4
 match j,h4 with
 |0,_=>cases hr2;cases h3;exact⟨rfl,λ_ _=> .str⟩
 |1,_=>cases hr2;cases h3;exact⟨rfl,λ_ _=> .bool⟩
 |2,_=>cases hr2;cases h3;exact⟨rfl,λ_ _=> .bool⟩
 |3,_=>cases hr2;cases h3;exact⟨rfl,λ_ _=> .bool⟩
theorem qrv{w w':World}(h:qfx 4 RC.frmC w)(e:w'.heap[4]? =w.heap[4]?):qfx 4 RC.frmC w':=by
 obtain⟨arr,T,fz,h1,h2⟩:=h;exact⟨arr,T,fz,e.trans h1,h2⟩
def U3:List Nat:= [4,3,7,8]
def qyv(w:World):Prop:=RC.SG w∧qfx 4 RC.frmC w
theorem qsP:kJ RC.SG [.pin U3 qyv]:=⟨0,_,_,rfl,λ_ h=>h.1⟩
theorem qsO:zQ [.pin U3 qyv] RC.frmN RC.frmC:=⟨0,_,_,rfl,by simp[U3],λ_ h=>h.2⟩
theorem qyz{W:World}(h:laidMet Tryz.prog YtiiegfkjmnoijaaGreatDoor.Rows.decisionReadingsRow.laid W):qqe W∧qzc W∧qfx 4 RC.frmC W:=by
 have h2:=laidMet.tail (laidMet.tail h);have h3:=laidMet.tail h2;have h4:=laidMet.tail h3;have h5:=laidMet.tail h4;have h6:=laidMet.tail h5;obtain⟨a,s,e1,_⟩:=laid_sentinel (g:=8) (ti:=166) (tp:=348) (te:=350) (ts:=9) h4 qAu (by kernel_rfl) Tryz.underlying166 qp6 Tryz.underlying348 Tryz.underlying350 rfl rfl Tryz.underlying9 (by kernel_rfl) (by kernel_rfl);obtain⟨b,t,e2,_⟩:=laid_sentinel (g:=7) (ti:=166) (tp:=348) (te:=350) (ts:=9) h5 qAv (by kernel_rfl) Tryz.underlying166 qp6 Tryz.underlying348 Tryz.underlying350 rfl rfl Tryz.underlying9 (by kernel_rfl) (by kernel_rfl);exact⟨Lib.tabIs_of_head (t:=315) (e:=218) (n:=20) qAt (by kernel_rfl) Tryz.underlying315 Tryz.underlying218 (by kernel_rfl) (by kernel_rfl) h2,⟨⟨_,_,e2⟩,_,_,e1⟩,qAs h6⟩
theorem qoH{W:World}(h:laidMet Tryz.prog YtiiegfkjmnoijaaGreatDoor.Rows.decisionReadingsRow.laid W): ∀b,b∈U3-> ∃arr T fz,W.heap[b]? =some (.cells arr T fz):=by
 intro b hb;obtain⟨h1,⟨⟨_,_,h2⟩,_,_,h3⟩,arr,T,fz,h4,_⟩:=qyz h;have e:b=4∨b=3∨b=7∨b=8:=by simpa[U3] using hb
 rcases e with rfl|rfl|rfl|rfl
 ·exact⟨_,_,_,h4⟩
 ·exact qaM qAt h1
 ·exact qaM qAv h2
 ·exact qaM qAu h3
theorem qsT{W:World}(h:laidMet Tryz.prog YtiiegfkjmnoijaaGreatDoor.Rows.decisionReadingsRow.laid W): ∀w':World,(∀b,b∈U3->w'.heap[b]? =W.heap[b]?)->qyv w':=by
 intro w' hs;obtain⟨h1,⟨⟨t1,p1,h2⟩,t2,p2,h3⟩,h4⟩:=qyz h;refine⟨⟨qn1 h1 (hs 3 (by simp[U3])),⟨t1,p1,?_⟩,t2,p2,?_⟩,qrv h4 (hs 4 (by simp[U3]))⟩
 ·rw[qcj qAv (hs 7 (by simp[U3]))];exact h2
 ·rw[qcj qAu (hs 8 (by simp[U3]))];exact h3
end LN
end
