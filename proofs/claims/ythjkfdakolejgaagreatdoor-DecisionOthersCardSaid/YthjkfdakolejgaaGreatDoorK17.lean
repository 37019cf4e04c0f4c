import Derived.Test.YthjkfdakolejgaaGreatDoorK16
import Derived.Test.YthjkfdakolejgaaGreatDoorK3
import Derived.Test.YthjkfdakolejgaaGreatDoorK5
import Derived.Test.YthjkfdakolejgaaGreatDoorK8
import Derived.Test.YthjkfdakolejgaaGreatDoorProg
import Derived.Test.YthjkfdakolejgaaGreatDoorK14
import Derived.Test.YthjkfdakolejgaaGreatDoorK15
import Derived.Test.YthjkfdakolejgaaGreatDoorK12
import Derived.Test.YthjkfdakolejgaaGreatDoorK9
import Derived.Test.YthjkfdakolejgaaGreatDoorRows
import Derived.LaidLaws
import Derived.OpenShut
set_option linter.all false
set_option linter.unusedSimpArgs false
set_option linter.unusedVariables false
set_option linter.unusedSectionVars false
set_option maxHeartbeats 128000000
set_option maxRecDepth 100000
section
open Go Go.Proofs AF HY LN
namespace RC
theorem qCz(h:List AObj)(k:Nat)(hk:qJ h k=true):ACalls Tryz.prog 81 [.el] h (.osl k (qo (qr k h)+1) 3 0 0) (qn k h (.mem (qo (qr k h)+1) 64 [])):=by
 refine qcY qut k (by simp) ?_;simp only[lco,lnl,Nat.reduceAdd,Nat.reduceSub,List.replicate,lca,lna];simp (disch:=omega) only[qB0,go_sem]
 repeat' first
  |(with_reducible apply aiA)
 all_goals first
  |omega
  |contradiction
  |skip
 all_goals try rfl
 exact⟨h.length+1,2,3,0,0,64,[],_,⟨trivial,trivial⟩,rfl,rfl,om,by simp only[go_sem],(fun c hc=>by cases hc),hk,rfl,rfl⟩
theorem qCP(x:Co)(d:List Dc)(s:Int)(h:List AObj)(hz:qdE x)(hp:kQ SG h)(hg:zK h frmN frmC)(hd:d.length≤1000000)(ht: ∀o∈d,o.txt.length≤1000)(hN0:vaE x []=0→(rwA x [] d s.toNat).length≤1000000000):
  ACalls Tryz.prog 25 [.agg (coC x),.el,kl d,.int .i64 s] h (.tup [kX (esR x [] d s),.int .i64 (esE x [] d s)]) h:=by
 have hu:qik []:=⟨by simp,fun i=>by simp;exact nzl _,fun i j=>by simp;exact nzl _,fun i j=>by simp;exact nzl _⟩
 have c1:=fun l'=>(qpI x [] (h++l') hz hu (hp.app l')).le (args:= [.agg (coC x),.el]) ⟨qi,qj1,trivial⟩ (qi)
 have zu: ∀g l,valL g .len [zS l]= .int .i64 l.length:=fun _ _=>rfl
 have zv: ∀g l,okL g .len [zS l]=True:=fun _ _=>eqt trivial
 have zu1: ∀g l,valL g .len [strs l]= .int .i64 l.length:=fun _ _=>rfl
 have zv1: ∀g l,okL g .len [strs l]=True:=fun _ _=>eqt trivial
 have hE:esE x [] d s=(if vaE x []≠0 then vaE x [] else if s<0∨(x.sig.length:Int)≤s then 2 else if qbH x [] d≠0 then qbH x [] d else if 1024<(rwA x [] d s.toNat).length then 4 else 0):=rfl;unfold esR
 by_cases g:vaE x []=0
 case neg=>
  have k1:(vaE x []=0)=False:=eqf g;rw[ipo g]at hE;rw[hE,ine g];unfold coC at c1;refine acO qa8 ?_;simp (disch:=omega) only[qgb,coC,go_sem]
  repeat' first
   |(refine cA (c1 _) flk ?_;simp (disch:=omega) only[k1,go_sem])
   |(apply qb;exact rvk;simp only[go_sem])
  exact VLe.tup ⟨zf,qi,trivial⟩
 rw[ine (by simpa using g)]at hE;have hN:=hN0 g;simp only[g]at c1;obtain⟨hca,hus,hcv⟩:=qf5 g;have ho:=qci hca
 by_cases g2:s<0
 ·have k2:(s<0)=True:=eqt g2;rw[ipo (.inl g2)]at hE;rw[hE,ine (by decide)];unfold coC at c1;refine acO qa8 ?_;simp (disch:=omega) only[qgb,coC,go_sem]
  repeat' first
   |(refine cA (c1 _) flk ?_;simp (disch:=omega) only[k2,go_sem])
   |(apply qb;exact rvk;simp only[go_sem])
  exact VLe.tup ⟨zf,qi,trivial⟩
 have k2:(s<0)=False:=eqf g2
 by_cases g3:(x.sig.length:Int)≤s
 ·have k3:((x.sig.length:Int)≤s)=True:=eqt g3;rw[ipo (.inr g3)]at hE;rw[hE,ine (by decide)];unfold coC at c1;refine acO qa8 ?_;simp (disch:=omega) only[qgb,coC,go_sem]
  repeat' first
   |(refine cA (c1 _) flk ?_;simp (disch:=omega) only[k2,k3,zu1,zv1,go_sem])
   |(apply qb;exact rvk;simp only[go_sem])
  exact VLe.tup ⟨zf,qi,trivial⟩
 have k3:((x.sig.length:Int)≤s)=False:=eqf g3;rw[ine (fun e=>e.elim g2 g3)]at hE;have c2:=fun l'=>(qDw x [] d (h++l') hz hu (hp.app l') hg.app hca hd ht).le (args:= [.agg (coC x),.el,kl d]) ⟨qi,qj1,qi,trivial⟩ (qi)
 unfold qAx at c2
 by_cases g4:qbH x [] d=0
 case neg=>
  have k4:(qbH x [] d=0)=False:=eqf g4;simp only[ine g4]at c2;rw[ipo g4]at hE;rw[hE,ine g4];unfold coC at c1 c2;refine acO qa8 ?_;simp (disch:=omega) only[qgb,coC,go_sem]
  repeat' first
   |((first|refine cA (c1 _) ?_ ?_|refine cA (c2 _) ?_ ?_);exact flk;simp (disch:=omega) only[k2,k3,k4,zu1,zv1,go_sem])
   |(apply qb;exact rvk;simp only[go_sem])
   |with_reducible apply aiA
  all_goals try exact clz
  exact VLe.tup ⟨zf,qi,trivial⟩
 rw[ine (by simpa using g4)]at hE;simp only[g4,if_true]at c2;rw[hE];unfold coC at c1 c2;refine acO qa8 ?_;simp (disch:=omega) only[qgb,coC,go_sem]
 repeat' first
  |((first|refine cA (c1 _) ?_ ?_|refine cA (c2 _) ?_ ?_);exact flk;simp (disch:=omega) only[k2,k3,zu1,zv1,go_sem])
  |with_reducible apply aiA
 all_goals try exact clz
 have hd0:d= []:=by
  cases d with
  |nil=>rfl
  |cons o r=>
   exfalso
   have:=g4
   unfold qbH at this;split at this
   ·cases this
   ·have h0:=jD.1 this 0 (by simp);have h1:=(qbb h0).2.2.2.2.1;have h2:km x [] ((o::r).getD 0 default)= -1:=rfl;omega
 subst hd0;have zi: ∀g l,valL g .len [qI l]= .int .i64 l.length:=fun _ _=>rfl
 have zj: ∀g l,okL g .len [qI l]=True:=fun _ _=>eqt trivial
 have ePL:(plG x [] [] ([]:List Dc).length).length=0:=rfl;refine qx (qAO (j:=h.length+2) (-1) (List.drop 1 (qY [.int .i64 0] 1)) ?j1) (by exact flk) ?_
 case j1=>simp only[go_sem]
 simp (disch:=omega) only[zi,zj,go_sem];refine qu (T:=fun _:Unit=>ze 154 [(1,.el),(3,.int .i64 s),(4,.op h.length 1 0),(13,qI []),(56,.int .i64 0),(57,.int .i64 0)])
  (H:=fun _=>h++ [.mem 1 26 [.str x.sec,strs x.sig,qm x.tok,qw x.col],.emp 1,.emp 2,.emp 0,.emp 0,.emp 0,.emp 0,.emp 0,.emp 0,.emp 0,.emp 0,.emp 0,.emp 0,.emp 0,.emp 0,.emp 0])
  (inv:=fun _=>True) (m:=fun _=>0) () trivial (Wk.temps ?_) ?_
 ·(simp only[go_sem,qg,qc,qa,qf];try (repeat' first|(with_reducible apply aiA)|(apply qh;omega)|(apply qe;rfl)|exact qi))
 rintro⟨⟩-K hK;have q1:((0:Int)<0)=False:=eqf om;simp (disch:=omega) only[q1,go_sem];refine⟨_,_,Wk.ownNil (j:=h.length+3) (i:=0) (k:=h.length+15) (v:=1) (ty:=29) (cs:= [.nl]) (ve:=0) (sz:=7) ?m1 rfl ?m2,?_⟩
 case m1=>simp only[go_sem]
 case m2=>simp only[go_sem]
 simp (disch:=omega) only[List.set_cons_zero,go_sem];have bne5:(h.length+14 !=h.length+5)=true:=by simp
 have zc: ∀g l,valL g .len [qw l]= .int .i64 l.length:=fun _ _=>rfl
 have zd: ∀g l,okL g .len [qw l]=True:=fun _ _=>eqt trivial
 refine jB ?T ?H ?h1 ?h2
 case h1=>
  simp (disch:=omega) only[zc,zd,go_sem]
  repeat' first
   |(with_reducible apply aiA)
   |(refine qx (qCz _ (h.length+14) (by simp only[go_sem])) (by exact flk) ?_;simp (disch:=omega) only[zc,zd,go_sem])
  all_goals first
   |omega
   |rfl
   |exact bne5
 case h2=>
 simp (disch:=omega) only[go_sem];obtain⟨S,hS⟩: ∃S:Nat,s=S:=⟨s.toNat,om⟩
 subst hS;rw[itn]at hN ⊢;have hSl:S<x.sig.length:=by omega
 obtain⟨MC,hMC⟩: ∃MC,MC= [AV.int .i64 x.col.length,.int .i64 x.col.length,.nl]:=⟨_,rfl⟩
 rw[←hMC];obtain⟨O5,hO5⟩: ∃O5,O5=AObj.mem 1 64 (AV.int .i64 x.col.length:: .int .i64 x.col.length:: .nl::List.drop 3 (qY [.int .i64 0,.int .i64 0,.nl] 1)):=⟨_,rfl⟩
 rw[←hO5];obtain⟨X0,hX0⟩: ∃X0,X0=AObj.mem 1 26 [.str x.sec,strs x.sig,qm x.tok,qw x.col]:=⟨_,rfl⟩
 have lX0: ∀n,lowO n X0:=by
  intro n;rw[hX0];intro c hc;simp at hc;rcases hc with rfl|rfl|rfl|rfl<;>rfl
 refine qu (T:=fun i:EsS=>ze 154 [(1,.el),(3,.int .i64 (S:Int)),(4,.op h.length 1 0),(13,qI []),(16,.op (h.length+3) 1 0),(17,.op (h.length+4) 1 0),(18,.int .i64 (nxT x [] i.k:Int)),(78,.osl (h.length+14) 2 3 0 1),(79,.int .i64 1),(80,.int .i64 i.k)])
  (H:=fun i=>h++ [.mem 1 26 [.str x.sec,strs x.sig,qm x.tok,qw x.col],.emp 1,.emp 2,.mem 1 29 [.osl (h.length+15) i.vb 7 0 (rwK x [] [] S i.k).length],.mem 1 117 [.fn (.func 79) [] [.op (h.length+3) 1 0]],O5,.emp 0,i.O7,i.O8,i.O9,i.O10,i.O11,i.O12,.emp 0,.mem 2 64 MC,zk i.vb 36 (jl (bsW (rwK x [] [] S i.k)))])
  (inv:=fun i=>i.k≤1∧ ∀O∈ [i.O7,i.O8,i.O9,i.O10,i.O11,i.O12],qJ [O] 0=true∧ ∀n,lowO n O) (m:=fun i=>1-i.k) ⟨0,0,.emp 0,.emp 0,.emp 0,.emp 0,.emp 0,.emp 0⟩ ⟨nzl _,fun O hO=>by
   simp at hO;subst hO;exact⟨rfl,fun _=>trivial⟩⟩ (Wk.temps ?_) ?_
 ·(simp only[go_sem,qg,qc,qa,qf];try (repeat' first|(with_reducible apply aiA)|(apply qh;omega)|(apply qe;rfl)|exact qi))
  done
 rintro⟨k,vb,O7,O8,O9,O10,O11,O12⟩ ⟨i1,i2⟩ K hK;simp only at i1 i2 hK;obtain⟨s7,l7⟩:=i2 O7 (by simp);obtain⟨s8,l8⟩:=i2 O8 (by simp);obtain⟨s9,l9⟩:=i2 O9 (by simp);obtain⟨s10,l10⟩:=i2 O10 (by simp);obtain⟨s11,l11⟩:=i2 O11 (by simp);obtain⟨s12,l12⟩:=i2 O12 (by simp);have s7': ∀m,qJ (O7::m) 0=true:=fun _=>s7
 have s8': ∀m,qJ (O8::m) 0=true:=fun _=>s8
 by_cases hk:k≤0
 case neg=>
  have q1:((k:Int)<(1:Int))=False:=eqf om;have eR:rwK x [] [] S k=rwA x [] [] S:=by unfold rwK;rw[lnl,ine hk]
  rw[eR]
  by_cases g5:1024<(rwA x [] [] S).length
  ·have q5:((1024:Int)<(rwA x [] [] S).length)=True:=eqt om;simp only[ipo g5];simp (disch:=omega) only[q1,q5,go_sem]
   repeat' first
    |(apply qb;exact rvk;simp only[go_sem])
    |with_reducible apply aiA
   all_goals try exact clz
   exact VLe.tup ⟨zf,qi,trivial⟩
  ·have q5:((1024:Int)<(rwA x [] [] S).length)=False:=eqf om;simp only[ine g5];simp (disch:=omega) only[q1,q5,go_sem]
   repeat' first
    |(apply qb;exact rvk;simp only[go_sem])
    |with_reducible apply aiA
   all_goals try exact clz
   exact VLe.tup ⟨qcU (j9 _).symm,qi,trivial⟩
 have q1:((k:Int)<(1:Int))=True:=eqt om;have q2:(0≤(k:Int))=True:=eqt om;have hk0:k=0:=by omega
 have hMl:MC.length=3:=by rw[hMC];rfl
 have q3:(k*3+3≤MC.length)=True:=eqt om;have eR:rwK x [] [] S k=rwL x [] [] S k:=by unfold rwK;rw[lnl,ipo hk]
 have eN:nxT x [] k=jU [] k:=by unfold nxT;rw[lnl,ipo hk]
 rw[eR,eN];obtain⟨f,hf⟩: ∃f,f=x.col.length:=⟨_,rfl⟩
 obtain⟨t',ht'⟩: ∃t',t'=x.col.length:=⟨_,rfl⟩
 obtain⟨RV,hRV⟩: ∃RV,RV=AV.nl:=⟨_,rfl⟩
 have eM:List.take 3 (List.drop (k*3) MC)= [.int .i64 (f:Int),.int .i64 (t':Int),RV]:=by rw[hk0,hMC,hf,ht',hRV];rfl
 have a5:jU [] k≤f:=by rw[hk0];exact nzl _
 have a6:f≤x.col.length:=by omega
 have lRV: ∀n,qV n RV=true:=fun n=>by rw[hRV];rfl
 have c3:=fun h=>qA3 x (jU [] k) f S h
 have hit:=itS x S (jU [] k) f hz ho hSl a6 a5;have hpF:=qaJ ho hSl (f:=jU [] k) (d:=f-jU [] k) om;obtain⟨ps,hps⟩: ∃ps,ps=spk x S (jU [] k) (f-jU [] k):=⟨_,rfl⟩
 have hxl:(spX x S (jU [] k) (f-jU [] k))=ps.map fun p=> [.agg (pcC p)]:=by unfold spX;rw[hps]
 rw[hxl]at hit;rw[←hps]at hpF;unfold coC at c3 hit;simp (disch:=omega) only[q1,q2,q3,eM,s7',s8',go_sem]
 repeat' first
  |(refine cA (c3 _) flk ?_;simp (disch:=omega) only[go_sem])
  |with_reducible apply aiA
 all_goals try exact clz
 obtain⟨L0,hL0⟩: ∃L0,L0=rwL x [] [] S k:=⟨_,rfl⟩
 have hLF: ∀r∈L0,PcF r.p:=by rw[hL0];exact qgC ho hus hSl (fun i hi=>absurd hi (by simp)) hk
 have hLn:(L0++rwM ps (-1) (-1)).length≤1000000000:=by
  refine Nat.le_trans ?_ hN;rw[hL0,hps,hf,hk0];exact nlr _
 rw[←hL0];obtain⟨P7,hP7⟩: ∃P7,P7=AObj.mem (qo (some O7)+1) 3 [.int .i64 (k:Int)]:=⟨_,rfl⟩
 obtain⟨P8,hP8⟩: ∃P8,P8=AObj.mem (qo (some O8)+1) 64 [.int .i64 (f:Int),.int .i64 (t':Int),RV]:=⟨_,rfl⟩
 have hP7l:qJ [P7] 0=true∧ ∀n,lowO n P7:=by
  rw[hP7];refine⟨rfl,fun n c hc=> ?_⟩;rw[List.mem_singleton]at hc;subst hc;rfl
 have hP8l:qJ [P8] 0=true∧ ∀n,lowO n P8:=by
  rw[hP8];refine⟨rfl,fun n c hc=> ?_⟩;simp only[List.mem_cons,List.not_mem_nil,or_false]at hc;rcases hc with rfl|rfl|rfl
  ·rfl
  ·rfl
  ·exact lRV n
 have cP7: ∀m,cellsOf (P7::m) 0 (qo (some O7)+1)=some [.int .i64 (k:Int)]:=fun m=>by rw[hP7];simp only[go_sem]
 rw[←hP7,←hP8];have lP: ∀L:List Rw,∀v n,lowO n (zk v 36 (jl (bsW L))):=fun L v n=>jt (qcW _ n)
 have hLow: ∀(L M:List Rw) (v w:Nat) O A,(∀n,lowO n A)→LowI (h++ [.mem 1 26 [.str x.sec,strs x.sig,qm x.tok,qw x.col],.emp 1,.emp 2,.mem 1 29 [.osl (h.length+15) w 7 0 M.length],.mem 1 117 [.fn (.func 79) [] [.op (h.length+3) 1 0]],O5,.emp 0,P7,P8,O,O10,O11,O12,.emp 0,.mem 2 64 MC,zk w 36 (jl (bsW M))])
   (h++ [.mem 1 26 [.str x.sec,strs x.sig,qm x.tok,qw x.col],.emp 1,.emp 2,.mem 1 29 [.osl (h.length+15) v 7 0 L.length],.mem 1 117 [.fn (.func 79) [] [.op (h.length+3) 1 0]],O5,.emp 0,P7,P8,A,O10,O11,O12,.emp 0,.mem 2 64 MC,zk v 36 (jl (bsW L))]):=fun L M v w O A lA=>by
  refine⟨by simp,fun o ho=> ?_⟩;rcases List.mem_append.1 ho with h1|h1
  ·exact .inl (List.mem_append_left _ h1)
  ·simp only[List.mem_cons,List.not_mem_nil,or_false]at h1;rcases h1 with rfl|rfl|rfl|rfl|rfl|rfl|rfl|rfl|rfl|rfl|rfl|rfl|rfl|rfl|rfl|rfl
   ·left;simp
   ·left;simp
   ·left;simp
   ·right;refine⟨fun c hc=> ?_,fun c hc=> ?_⟩<;>
    ·rw[List.mem_singleton]at hc;subst hc;simp[qV]
     try omega
   ·left;simp
   ·left;simp
   ·left;simp
   ·left;simp
   ·left;simp
   ·right;exact⟨lA _,lA _⟩
   ·left;simp
   ·left;simp
   ·left;simp
   ·left;simp
   ·left;simp
   ·right;exact⟨lP _ _ _,lP _ _ _⟩
 refine zy hit (fun a ha=> ?_)
  (S:=fun i hh=> ∃A,qJ [A] 0=true∧(∀n,lowO n A)∧hh=h++ [.mem 1 26 [.str x.sec,strs x.sig,qm x.tok,qw x.col],.emp 1,.emp 2,.mem 1 29 [.osl (h.length+15) (vb+i) 7 0 (L0++rwM (ps.take i) (-1) (-1)).length],.mem 1 117 [.fn (.func 79) [] [.op (h.length+3) 1 0]],O5,.emp 0,P7,P8,A,O10,O11,O12,.emp 0,.mem 2 64 MC,zk (vb+i) 36 (jl (bsW (L0++rwM (ps.take i) (-1) (-1))))]) (E:=fun _ _=>False) ?_ ?_ ?_ ?_ ?_ ?_ ?_
 ·obtain⟨c,_,rfl⟩:=List.mem_map.1 ha;rfl
 ·rintro i hh ⟨A,_,lA,rfl⟩;exact hLow _ _ _ _ _ _ lA
 ·intro s hh hf;exact hf.elim
 ·exact⟨O9,s9,l9,by simp[rwM]⟩
 ·simp[qV,qV.lowVs]
  repeat' apply aiA
  all_goals first|rfl|omega|exact lRV _
 ·rintro i hh tl LI TS hi ⟨A,sA,lA,rfl⟩ hlen K1 K2 hK1 hN1 hR1 hX1;have hi':i<ps.length:=by rw[List.length_map]at hi;exact hi
  rw[List.getElem_map];have sA': ∀m,qJ (A::m) 0=true:=fun _=>sA
  have hS:L0++rwM (ps.take (i+1)) (-1) (-1)=(L0++rwM (ps.take i) (-1) (-1))++ [⟨ps.getD i default,-1,-1⟩]:=by
   unfold rwM;rw[List.take_add_one,zL hi',List.map_append,gdqA,zL hi',List.append_assoc];rfl
  have eG:ps[i]=ps.getD i default:=by rw[gdqA,zL hi'];rfl
  rw[eG];have hpm:ps.getD i default∈ps:=jr hi';obtain⟨p,hp'⟩: ∃p,p=ps.getD i default:=⟨_,rfl⟩
  rw[←hp']at hS hpm ⊢;obtain⟨M,hM⟩: ∃M,M=L0++rwM (ps.take i) (-1) (-1):=⟨_,rfl⟩
  have hMF: ∀r∈M,PcF r.p:=fun r hr=>by
   rw[hM]at hr;rcases List.mem_append.1 hr with hr|hr
   ·exact hLF r hr
   ·exact hpF _ (List.mem_of_mem_take (jS.1 hr).1)
  have hMn:M.length≤1000000000:=by
   rw[hM,lap,jJ,List.length_take];rw[lap,jJ]at hLn;omega
  rw[←hM]at hS ⊢;simp only[kJ,List.append_assoc,lca,lna];simp (disch:=omega) only[sA',pcC,tkC,go_sem];refine hK1 _ _ (h++ [.mem 1 26 [.str x.sec,strs x.sig,qm x.tok,qw x.col],.emp 1,.emp 2,.mem 1 29 [.osl (h.length+15) (vb+i) 7 0 M.length],.mem 1 117 [.fn (.func 79) [] [.op (h.length+3) 1 0]],O5,.emp 0,P7,P8,(.mem (qo (some A)+1) 115 (pcC p)),O10,O11,O12,.emp 0,.mem 2 64 MC,zk (vb+i) 36 (jl (bsW M))]) ?_ ?_ ?_
  ·simp[pcC,tkC]
  ·simp
  ·simp only[List.append_assoc,lca,lna];simp (disch:=omega) only[pcC,tkC,go_sem]
   repeat' first
    |with_reducible apply aiA
   all_goals try exact clz
   refine kA (qwM (a:=h.length+3) (b:=h.length+15) (c:=h.length) (va:=1) (vb:=vb+i) (Z:= .mem 1 26 [.str x.sec,strs x.sig,qm x.tok,qw x.col]) ⟨by simp,by simp,by simp,om,om,om⟩ M p (-1) (-1) (by simp only[go_sem]) (by simp only[go_sem]) (by simp only[go_sem]) (by rw[←hX0];exact lX0) (hpF p hpm) hMn hMF) ?_;simp (disch:=omega) only[go_sem];refine hN1 _ _ (h++ [.mem 1 26 [.str x.sec,strs x.sig,qm x.tok,qw x.col],.emp 1,.emp 2,.mem 1 29 [.osl (h.length+15) (vb+(i+1)) 7 0 (M++ [(⟨p,-1,-1⟩:Rw)]).length],.mem 1 117 [.fn (.func 79) [] [.op (h.length+3) 1 0]],O5,.emp 0,P7,P8,(.mem (qo (some A)+1) 115 (pcC p)),O10,O11,O12,.emp 0,.mem 2 64 MC,zk (vb+(i+1)) 36 (jl (bsW (M++ [(⟨p,-1,-1⟩:Rw)])))]) ?_ ?_ ⟨_,rfl,?_,by rw[hS]⟩
   ·simp[pcC,tkC,Nat.add_assoc]
   ·simp
   ·intro n c hc;simp[pcC,tkC]at hc;rcases hc with rfl|rfl|rfl|rfl|rfl|rfl|rfl<;>rfl
 ·rintro hh ⟨A,sA,lA,rfl⟩;rw[List.length_map,List.take_length];obtain⟨L1,hL1⟩: ∃L1,L1=L0++rwM ps (-1) (-1):=⟨_,rfl⟩
  rw[←hL1]
  by_cases hkl:k<0
  case neg=>
   have hke:k=0:=by omega
   obtain⟨b1,b2⟩:f=x.col.length∧t'=x.col.length:=⟨hf,ht'⟩
   have q4:((k:Int)=0)=True:=eqt om;rw[hP7,hP8];simp (disch:=omega) only[q4,go_sem]
   repeat' first
    |with_reducible apply aiA
   all_goals try exact clz
   rw[←hP7,←hP8];have e1:rwK x [] [] S (k+1)=L1:=by
    unfold rwK;rw[ine (by simp),hL1,hL0,hps,b1,hke];rfl
   have e2:nxT x [] (k+1)=t':=by unfold nxT;rw[ine (by simp),b2]
   refine hK _ _ ⟨k+1,vb+ps.length,P7,P8,A,O10,O11,O12⟩ ⟨by simp only;omega,fun O hO=> ?_⟩ (by simp only;omega) ?_
   ·simp only[List.mem_cons,List.not_mem_nil,or_false]at hO;rcases hO with rfl|rfl|rfl|rfl|rfl|rfl
    ·exact hP7l
    ·exact hP8l
    ·exact⟨sA,lA⟩
    ·exact⟨s10,l10⟩
    ·exact⟨s11,l11⟩
    ·exact⟨s12,l12⟩
   ·simp only[e1,e2];refine Wk.temps ?_
    (simp only[go_sem,qg,qc,qa,qf];try (repeat' first|(with_reducible apply aiA)|(apply qh;omega)|(apply qe;rfl)|exact qi))
  exact absurd hkl (nnz k)
 ·intro e hh hf;exact hf.elim
theorem que(x:Co)(l:List Un)(d:List Dc)(s:Int)(h:List AObj)(hz:qdE x)(hu:qik l)(hp:kQ SG h)(hg:zK h frmN frmC)(hd:d.length≤1000000)(ht: ∀o∈d,o.txt.length≤1000)(hN0:vaE x l=0→(rwA x l d s.toNat).length≤1000000000):
  ACalls Tryz.prog 25 [.agg (coC x),zS l,kl d,.int .i64 s] h (.tup [kX (esR x l d s),.int .i64 (esE x l d s)]) h:=by
 cases l with
 |nil=>exact ACalls.sl0 (pre:= [.agg (coC x)]) (post:= [kl d,.int .i64 s]) (qCO x d s h hz hp hg hd ht hN0) (qCP x d s h hz hp hg hd ht hN0)
 |cons u r=>exact qE5 x (u::r) d s h hz hu hp hg (List.cons_ne_nil _ _) hd ht hN0
end RC
end
section
open Go Go.Proofs AF
def qet:List Nat:= []
def qxg:C:=
 ((C.ops [⟨some 2,none,.alloc 0 103 [.str [],.str [],.str [],i6 0,i6 0,.str []],[]⟩]).seq ((C.ops [MV 3 0,MV 4 0,⟨some 5,none,.build [.str [],.str [],.str [],i6 0,i6
 0,.str []] [(0,1),(1,1)],[.t 3,.t 4]⟩,ST 6 2 5]).seq
 C.ret))
theorem qyO:qM Tryz.prog 144 6 1 [RV.cell 2 (some 6)] qxg:=fi Tryz.f144 [2] qet []
def qEt:C:=
 ((C.ops [⟨some 0,none,.alloc 0 26 [.str [],.nl,.nl,.nl],[]⟩]).seq ((C.ops [⟨some 1,none,.bslc 1 1 2 9 [.str []] [(0,1),(1,1)],[.c (.str [65]),.c (.str [66])]⟩,ON 2
 (.call 144 true) [.c (.str [100,101,117,115])],ON 3 (.call 144 true) [.c (.str [101,115,116])],ON 4 (.call 144 true) [.c (.str [98,111,110,117,115])],⟨some 5,none,
 .bslc 2 6 3 103 [.str [],.str [],.str [],i6 0,i6 0,.str []] [(0,6),(6,6),(12,6)],[.t 2,.t 3,.t 4]⟩,ON 6 (.call 144 true) [.c (.str [100,101,117,115])],ON 7 (.call
 144 true) [.c (.str [98,111,110,117,115])],⟨some 8,none,.bslc 3 6 2 103 [.str [],.str [],.str [],i6 0,i6 0,.str []] [(0,6),(6,6)],[.t 6,.t 7]⟩,⟨some 9,none,
 .bslc 4 1 2 105 [.nl] [(0,1),(1,1)],[.t 5,.t 8]⟩,⟨some 10,none,.bslc 5 1 2 3 [i6 0] [(0,1),(1,1)],[.c (i6 0),.c (i6 0)]⟩,⟨some 11,none,.bslc 6 1 2 3 [i6 0] [(0,1),
 (1,1)],[.c (i6 1),.c (i6 (-1))]⟩,⟨some 12,none,.bslc 7 1 2 3 [i6 0] [(0,1),(1,1)],[.c (i6 2),.c (i6 1)]⟩,⟨some 13,none,.bslc 8 1 3 39 [.nl] [(0,1),(1,1),(2,1)],
 [.t 10,.t 11,.t 12]⟩,⟨some 14,none,.build [.str [],.nl,.nl,.nl] [(0,1),(1,1),(2,1),(3,1)],[.c (.str [97]),.t 1,.t 9,.t 13]⟩,ST 4 0 14]).seq
 C.ret))
theorem qC8:qM Tryz.prog 92 15 9 [RV.cell 0 (some 4)] qEt:=fi Tryz.f92 [0,1,5,8,9,10,11,12,13] qet []
def qx8:C:=
 ((C.ops [O1 1 (.box 0 75) 0,MC 2 (.bool false)]).seq ((C.ops [O1 3 (.fldA 0) 1,O1 4 (.load (some 4)) 3,O1 5 (.call 28 true) 4,MV 6 5,P1 7 6 false (.fldA 4) 1,P1 8 6 false
 (.load none) 7,P1 9 6 false (.call 97 true) 8,PT 10 6 9,MV 11 10,P1 12 11 false (.fldA 5) 1,P1 13 11 false (.load none) 12,P1 14 11 false (.call 23 true) 13,PT 15 11 14,MV
 2 15]).seq
 C.ret))
theorem qqd:qM Tryz.prog 46 16 1 [RV.tmp 2] qx8:=fi Tryz.f46 [1] qet []
def qx7:C:=
 ((C.ops [O1 1 (.box 0 75) 0,ON 2 (.nilo 1 7 36) [],MC 3 (.bool false)]).seq (((C.ops [O1 6 (.load (some 7)) 1,O1 7 (.call 46 true) 6,MV 8 7,P1 9 8 false (.fldA 0) 1,P1 10 8
 false (.load (some 4)) 9,P1 11 8 false (.call 29 true) 10,PC 12 8 false (.bin .neq) 11 (i6 0),PT 13 8 12]).seq (C.cond (.t 13) ((C.ops [ON 2 (.nilo 1 7 36) [],MC 3 (.bool
 false)]).seq C.ret) C.skip)).seq ((C.ops [O1 15 (.fldA 0) 1,O1 16 (.load (some 4)) 15,O1 17 (.fldA 4) 1,LD 18 17,O1 19 (.fldA 5) 1,LD 20 19,O1 21 (.fldA 6) 1,LD 22 21,ON 23
 (.call 25 true) [.t 16,.t 18,.t 20,.t 22],MV 14 23,O1 24 (.ext 0) 14,O1 25 (.ext 1) 14,MV 4 24,MV 5 25]).seq ((C.ops [MV 26 4,MV 27 5,BC 28 .eql 27 (i6 0),MV 2 26,MV 3
 28]).seq
 C.ret))))
theorem qqc:qM Tryz.prog 39 29 2 [RV.tmp 2,RV.tmp 3] qx7:=fi Tryz.f39 [1,2] qet []
end
section
open Go Go.Proofs AF
def quH:List Nat:= [25]
def qEj:C:=
 ((C.ops [MC 0 (.bool false)]).seq ((C.ops [ON 10 (.call 92 true) [],O1 11 (.call 31 true) 10,MV 9 11,O1 12 (.ext 0) 9,O1 13 (.ext 1) 9,MV 1 12,MV 2 13]).seq ((C.ops [ON 15
 (.call 92 true) [],MV 16 1,ON 17 (.call 25 false) [.t 15,.t 16,.c .nl,.c (i6 0)],MV 14 17,O1 18 (.ext 0) 14,O1 19 (.ext 1) 14,MV 3 18,MV 4 19]).seq ((C.ops [ON 21 (.call
 92 true) [],MV 22 1,⟨some 23,none,.build [i6 0,.str [],i6 0,.str []] [(0,1),(1,1),(2,1)],[.c (i6 3),.c (.str [65]),.c (i6 1)]⟩,⟨some 24,none,.bslc 0 4 1 43 [i6 0,
 .str [],i6 0,.str []] [(0,4)],[.t 23]⟩,ON 25 (.call 25 false) [.t 21,.t 22,.t 24,.c (i6 0)],MV 20 25,O1 26 (.ext 0) 20,O1 27 (.ext 1) 20,MV 5 26,MV 6 27]).seq ((C.ops
 [ON 29 (.call 92 true) [],MV 30 1,⟨some 31,none,.build [i6 0,.str [],i6 0,.str []] [(0,1),(1,1),(2,1),(3,1)],[.c (i6 2),.c (.str [65]),.c (i6 1),.c (.str [118,
 101,114,101,44,32,101,116])]⟩,⟨some 32,none,.bslc 1 4 1 43 [i6 0,.str [],i6 0,.str []] [(0,4)],[.t 31]⟩,ON 33 (.call 25 false) [.t 29,.t 30,.t 32,.c (i6 0)],MV
 28 33,O1 34 (.ext 0) 28,O1 35 (.ext 1) 28,MV 7 34,MV 8 35]).seq (((C.ops [MV 36 2,MV 37 4,MV 38 6,MV 39 8,ON 40 (.mm true) [.t 36,.t 37,.t 38,.t 39],BC 41 .neq 40 (i6
 0),MV 42 41,MG 43 42 false 7,P1 44 42 false .len 43,PC 45 42 false (.bin .neq) 44 (i6 5),PT 46 42 45]).seq (C.cond (.t 46) ((C.ops [MC 0 (.bool false)]).seq C.ret)
 C.skip)).seq ((C.ops [MV 47 3,O1 48 (.call 37 true) 47,⟨some 49,none,.bslc 2 1 3 9 [.str []] [(0,1),(1,1),(2,1)],[.c (.str [100,101,117,115]),.c (.str [101,115,
 116]),.c (.str [98,111,110,117,115])]⟩,O2 50 (.call 36 true) 48 49,MV 51 50,MG 52 51 true 5,P1 53 51 true (.call 37 true) 52,⟨some 54,some (51,true),.bslc 3 1 2 9
 [.str []] [(0,1),(1,1)],[.c (.str [100,101,117,115]),.c (.str [98,111,110,117,115])]⟩,P2 55 51 true (.call 36 true) 53 54,PF 56 51 55,MV 57 56,MG 58 57 true 7,P1
 59 57 true (.call 37 true) 58,⟨some 60,some (57,true),.bslc 4 1 5 9 [.str []] [(0,1),(1,1),(2,1),(3,1),(4,1)],[.c (.str [100,101,117,115]),.c (.str [118,101,
 114,101]),.c (.str [44]),.c (.str [101,116]),.c (.str [98,111,110,117,115])]⟩,P2 61 57 true (.call 36 true) 59 60,PF 62 57 61,MV 63 62,MG 64 63 true 7,PC 65 63 true
 (.idxA 7) 64 (i6 2),P1 66 63 true (.fldA 4) 65,P1 67 63 true (.load none) 66,PF 68 63 67,MV 69 68,MG 70 69 true 7,PC 71 69 true (.idxA 7) 70 (i6 3),P1 72 69 true (.fldA 4)
 71,P1 73 69 true (.load none) 72,P1 74 69 true (.un UnOp.not) 73,PF 75 69 74,MV 0 75]).seq
 C.ret)))))))
theorem qCX:qM Tryz.prog 40 76 5 [RV.tmp 0] qEj:=fi Tryz.f40 [24,32,49,54,60] quH []
end
section
open Go Go.Proofs AF HY LN
namespace RC
theorem qFe(a:Cq)(h:List AObj)(hb:CqB a):ACalls Tryz.prog 46 [.agg (cqC a)] h (.bool (quz a)) h:=by
 have c1:=fun h=>qFa a.x h hb.x
 have c2:=fun h=>qFb a.l h hb.l
 have c3:=fun h=>qqn a.d h hb.d
 unfold quz;cases e1:qux a.x with
 |true=>
  rw[e1]at c1;unfold coC at c1;refine acO qqd ?_;simp (disch:=omega) only[qx8,cqC,go_sem]
  repeat' first
   |(refine qj ( .bool false) ?_;simp (disch:=omega) only[go_sem])
   |(refine cA (c1 _) flk ?_;simp (disch:=omega) only[go_sem])
   |(apply qb;exact rvk;simp only[go_sem];exact qi)
 |false=>
  rw[e1]at c1;unfold coC at c1;cases e2:quy a.l with
  |true=>
   rw[e2]at c2;refine acO qqd ?_;simp (disch:=omega) only[qx8,cqC,go_sem]
   repeat' first
    |(refine qj ( .bool false) ?_;simp (disch:=omega) only[go_sem])
    |((first|refine cA (c1 _) ?_ ?_|refine cG (fun e=>c2 _) ?_ ?_);exact flk;simp (disch:=omega) only[go_sem])
    |(apply qb;exact rvk;simp only[go_sem];exact qi)
  |false=>
   rw[e2]at c2;cases e3:qiR a.d with
   |true=>
    rw[e3]at c3;refine acO qqd ?_;simp (disch:=omega) only[qx8,cqC,go_sem]
    repeat' first
     |((first|refine cA (c1 _) ?_ ?_|refine cG (fun e=>c2 _) ?_ ?_|refine cG (fun e=>c3 _) ?_ ?_);exact flk;simp (disch:=omega) only[go_sem])
     |(apply qb;exact rvk;simp only[go_sem];exact qi)
   |false=>
    rw[e3]at c3;refine acO qqd ?_;simp (disch:=omega) only[qx8,cqC,go_sem]
    repeat' first
     |((first|refine cA (c1 _) ?_ ?_|refine cG (fun e=>c2 _) ?_ ?_|refine cG (fun e=>c3 _) ?_ ?_);exact flk;simp (disch:=omega) only[go_sem])
     |(apply qb;exact rvk;simp only[go_sem];exact qi)
def mdB(a:Cq):Bool:= !quz a&&decide (esE a.x a.l a.d a.lead=0)
def mdR(a:Cq):List Wd:=if quz a=true then [] else esR a.x a.l a.d a.lead
theorem qCM{x:Co}{l:List Un}{d:List Dc}{s:Int}(h:coE x≠0):esE x l d s≠0:=by
 have:vaE x l=1:=by unfold vaE;rw[ipo h]
 unfold esE;rw[this,ipo (by decide)];decide
theorem esA(a:Cq)(h:List AObj)(z:CqS a)(hp:kQ SG h)(hg:zK h frmN frmC):ACalls Tryz.prog 25 [.agg (coC a.x),zS a.l,kl a.d,.int .i64 a.lead] h (.tup [kX (esR a.x a.l a.d a.lead),.int .i64 (esE a.x a.l a.d a.lead)]) h:=
 que a.x a.l a.d a.lead h z.x z.l hp hg (by have:=z.d;omega) (fun o ho=>by have:=z.t o ho;omega) (z.lim _)
theorem quX(a:Cq)(h:List AObj)(hb:CqB a)(hp:kQ SG h)(hg:zK h frmN frmC):ACalls Tryz.prog 39 [.agg (cqC a)] h (.tup [kX (mdR a),.bool (mdB a)]) h:=by
 have c1:=fun h=>qFe a h hb
 unfold mdB mdR;cases e1:quz a with
 |true=>
  rw[e1]at c1;refine acO qqc ?_;simp (disch:=omega) only[qx7,cqC,go_sem]
  repeat' first
   |(refine qj ( .int .i64 0) ?_;simp (disch:=omega) only[go_sem])
   |(refine cA (c1 _) flk ?_;simp (disch:=omega) only[go_sem])
   |(apply qb;exact rvk;simp only[go_sem])
  exact VLe.tup ⟨zf,qi,trivial⟩
 |false=>
  rw[e1]at c1;have z:=qsE e1;have c2:=fun l'=>coR a.x (h++l') z.x (hp.app l')
  have c3:=fun l'=>esA a (h++l') z (hp.app l') hg.app
  rw[ine (by simp)]
  by_cases e2:coE a.x=0
  ·rw[e2]at c2;obtain⟨E,hE⟩: ∃E,E=esE a.x a.l a.d a.lead:=⟨_,rfl⟩
   simp only[←hE]at c3 ⊢;unfold cqC at c1;unfold coC at c2 c3
   by_cases e3:E=0
   ·have k3:(E=0)=True:=eqt e3;rw[dqt e3];refine acO qqc ?_;simp (disch:=omega) only[qx7,cqC,go_sem]
    repeat' first
     |((first|refine cA (c1 _) ?_ ?_|refine cG (fun e=>c2 _) ?_ ?_|refine cA (c3 _) ?_ ?_);exact flk;simp (disch:=omega) only[k3,go_sem])
     |(apply qb;exact rvk;simp only[go_sem];exact qi)
     |with_reducible apply aiA
    all_goals try exact clz
   ·have k3:(E=0)=False:=eqf e3;rw[dqf e3];refine acO qqc ?_;simp (disch:=omega) only[qx7,cqC,go_sem]
    repeat' first
     |((first|refine cA (c1 _) ?_ ?_|refine cG (fun e=>c2 _) ?_ ?_|refine cA (c3 _) ?_ ?_);exact flk;simp (disch:=omega) only[k3,go_sem])
     |(apply qb;exact rvk;simp only[go_sem];exact qi)
     |with_reducible apply aiA
    all_goals try exact clz
  ·have k2:(coE a.x=0)=False:=eqf e2;have hn:=qCM (l:=a.l) (d:=a.d) (s:=a.lead) e2;rw[dqf hn];unfold esR;rw[ine hn];obtain⟨E,hE⟩: ∃E,E=coE a.x:=⟨_,rfl⟩
   simp only[←hE]at c2 k2;unfold cqC at c1;unfold coC at c2;refine acO qqc ?_;simp (disch:=omega) only[qx7,cqC,go_sem]
   repeat' first
    |((first|refine cA (c1 _) ?_ ?_|refine cG (fun e=>c2 _) ?_ ?_);exact flk;simp (disch:=omega) only[k2,go_sem])
    |(apply qb;exact rvk;simp only[go_sem])
   exact VLe.tup ⟨zf,qi,trivial⟩
theorem qDK(s:Str)(h:List AObj):ACalls Tryz.prog 144 [.str s] h (.agg (tkC (tkS s))) h:=by
 unfold tkS tkC;refine acO qyO ?_;simp (disch:=omega) only[qxg,go_sem]
 repeat' first
  |(apply qb;exact rvk;simp only[go_sem];exact qi)
theorem qDH(h:List AObj):ACalls Tryz.prog 92 [] h (.agg (coC xCo)) h:=by
 have c1:=fun s h=>qDK s h
 unfold tkC tkS at c1;refine acO qC8 ?_;simp (disch:=omega) only[qEt,go_sem]
 repeat' first
  |((first|refine cA (c1 qcC _) ?_ ?_|refine cA (c1 qwG _) ?_ ?_|refine cA (c1 qav _) ?_ ?_);exact flk;simp (disch:=omega) only[go_sem])
  |(apply qb;exact rvk;simp only[go_sem])
 refine VLe.agg ⟨qi,vl2 ⟨ie rfl,trivial⟩ ⟨ie rfl,trivial⟩,vl2 ⟨?a1,trivial⟩ ⟨?a2,trivial⟩,vl3 ⟨?a3,trivial⟩ ⟨?a4,trivial⟩ ⟨?a5,trivial⟩,trivial⟩
 case a1=>simp only[go_sem];exact il3 rfl rfl rfl
 case a2=>simp only[go_sem];exact il2 rfl rfl
 case a3=>simp only[go_sem];exact il2 rfl rfl
 case a4=>simp only[go_sem];exact il2 rfl rfl
 case a5=>simp only[go_sem];exact il2 rfl rfl
def qvx:Str:= [118,101,114,101]
def qD1:Dc:=⟨3,[65],1,[]⟩
def qD2:Dc:=⟨2,[65],1,[118,101,114,101,44,32,101,116]⟩
def qA:List Wd:= [⟨qcC,0,-1,-1,false,false,[]⟩,⟨qwG,1,0,-1,false,false,[]⟩,⟨qav,2,-1,-1,false,false,[]⟩]
def qB:List Wd:= [⟨qcC,0,-1,-1,false,false,[]⟩,⟨qav,2,-1,-1,false,false,[]⟩]
def qC:List Wd:= [⟨qcC,0,-1,-1,false,false,[]⟩,⟨qvx,1,0,0,false,false,[]⟩,⟨[44],1,0,0,true,false,[]⟩,⟨[101,116],1,0,0,false,false,[]⟩,⟨qav,2,-1,-1,false,false,[]⟩]
theorem q_u:utR xCo=xUn∧utE xCo=0:=by decide+kernel
theorem q_a:esE xCo xUn [] 0=0∧esR xCo xUn [] 0=qA:=by decide+kernel
theorem q_b:esE xCo xUn [qD1] 0=0∧esR xCo xUn [qD1] 0=qB:=by decide+kernel
theorem q_c:esE xCo xUn [qD2] 0=0∧esR xCo xUn [qD2] 0=qC:=by decide+kernel
theorem qtg(h:List AObj)(hp:kQ SG h)(hg:zK h frmN frmC):ACalls Tryz.prog 40 [] h (.bool true) h:=by
 have c1:=fun h=>qDH h
 have zs:qdE xCo:=(qsC (by decide+kernel)).1;have zu:qik xUn:=(qsD (by decide+kernel)).1;have c2:=fun l'=>qDP xCo (h++l') zs (hp.app l')
 rw[q_u.1,q_u.2]at c2;have hb: ∀d:List Dc,(∀o∈d,o.txt.length≤1000)→vaE xCo xUn=0→(rwA xCo xUn d (0:Int).toNat).length≤1000000000:=fun d ht g=>qdm (by decide) ht g
 have t1: ∀o∈ [qD1],o.txt.length≤1000:=by decide
 have t2: ∀o∈ [qD2],o.txt.length≤1000:=by decide
 have c3:=fun l'=>(que xCo xUn [] 0 (h++l') zs zu (hp.app l') hg.app (by simp) (by simp) (hb [] (by simp))).le (args:= [.agg (coC xCo),zS xUn,.nl,.int .i64 0]) ⟨qi,qi,zf,qi,trivial⟩ (qi)
 have c4:=fun l'=>que xCo xUn [qD1] 0 (h++l') zs zu (hp.app l') hg.app (by simp) t1 (hb _ t1)
 have c5:=fun l'=>que xCo xUn [qD2] 0 (h++l') zs zu (hp.app l') hg.app (by simp) t2 (hb _ t2)
 rw[q_a.1,q_a.2]at c3;rw[q_b.1,q_b.2]at c4;rw[q_c.1,q_c.2]at c5;have hc0:([h.length]:List Nat).contains h.length=true:=by simp
 have hc1:([h.length+1]:List Nat).contains (h.length+1)=true:=by simp
 unfold coC at c1 c2 c3;refine acO qCX ?_;simp (disch:=omega) only[qEj,go_sem]
 repeat' first
  |((first|refine cA (c1 _) ?_ ?_|refine cA (c2 _) ?_ ?_|refine cA (c3 _) ?_ ?_);exact flk;simp (disch:=omega) only[go_sem])
  |with_reducible apply aiA
 all_goals try exact clz
 refine qx (r:= .tup [kX qB,.int .i64 0]) (h':=h++ [.emp 2,.emp 0,.emp 0,.emp 0,.emp 0]) (ACalls.frzd [h.length] (by simp only[kK,go_sem]) ?c) (by exact flk) ?_
 case c=>
  simp only[qbx,go_sem];refine ACalls.le (c4 _) ?_ (qi);simp only[go_sem,coC,hc0,if_true];exact⟨qi,qi,VLe.sl_eq rfl (fun i hi=>by
   obtain rfl:i=0:=by omega
   rfl),qi,trivial⟩
 simp (disch:=omega) only[go_sem]
 repeat' first
  |(refine cA (c1 _) flk ?_;simp (disch:=omega) only[go_sem])
  |with_reducible apply aiA
 all_goals try exact clz
 refine qx (r:= .tup [kX qC,.int .i64 0]) (h':=h++ [.emp 2,.emp 2,.emp 0,.emp 0,.emp 0]) (ACalls.frzd [h.length+1] (by simp only[kK,go_sem]) ?d) (by exact flk) ?_
 case d=>
  simp only[qbx,go_sem];refine ACalls.le (c5 _) ?_ (qi);simp only[go_sem,coC,hc1,if_true];exact⟨qi,qi,VLe.sl_eq rfl (fun i hi=>by
   obtain rfl:i=0:=by omega
   rfl),qi,trivial⟩
 have zm:valP (.mm true) [.int .i64 0,.int .i64 0,.int .i64 0,.int .i64 0]= .int .i64 0:=rfl;have zn:okP (.mm true) [.int .i64 0,.int .i64 0,.int .i64 0,.int .i64 0]=True:=eqt (by simp[okP,qdb]);have zA: ∀g,valL g .len [kX qC]= .int .i64 5:=fun _=>rfl
 have zB: ∀g,okL g .len [kX qC]=True:=fun _=>eqt trivial
 have w1:=fun h=>qwt qA h (by decide)
 have w2:=fun h=>qwt qB h (by decide)
 have w3:=fun h=>qwt qC h (by decide)
 have e1:qop qA= [qcC,qwG,qav]:=rfl;have e2:qop qB= [qcC,qav]:=rfl;have e3:qop qC= [qcC,qvx,[44],[101,116],qav]:=rfl;rw[e1]at w1;rw[e2]at w2;rw[e3]at w3;simp (disch:=omega) only[zm,zn,zA,zB,go_sem]
 repeat' first
  |(refine cA (w1 _) flk ?_;simp (disch:=omega) only[go_sem])
  |with_reducible apply aiA
 all_goals try exact clz
 refine cA (qCK (L:= [qcC,qwG,qav]) ?v1 (by decide)) (by exact flk) ?_
 case v1=>
  simp only[List.map,go_sem];exact⟨qi,VLe.sl_eq rfl (fun i hi=>by
   match i,hi with
   |0,_=>rfl
   |1,_=>rfl
   |2,_=>rfl
   |n+3,hi=>exact absurd hi om),trivial⟩
 simp (disch:=omega) only[go_sem]
 repeat' first
  |(refine cG (fun e=>w2 _) flk ?_;simp (disch:=omega) only[go_sem])
 refine cG (fun _=>qCK (L:= [qcC,qav]) ?v2 (by decide)) (fun _=>by exact flk) ?_
 case v2=>
  simp only[List.map,go_sem];exact⟨qi,VLe.sl_eq rfl (fun i hi=>by
   match i,hi with
   |0,_=>rfl
   |1,_=>rfl
   |n+2,hi=>exact absurd hi om),trivial⟩
 simp (disch:=omega) only[go_sem]
 repeat' first
  |(refine cG (fun e=>w3 _) flk ?_;simp (disch:=omega) only[go_sem])
 refine cG (fun _=>qCK (L:= [qcC,qvx,[44],[101,116],qav]) ?v3 (by decide)) (fun _=>by exact flk) ?_
 case v3=>
  simp only[List.map,go_sem];exact⟨qi,VLe.sl_eq rfl (fun i hi=>by
   match i,hi with
   |0,_=>rfl
   |1,_=>rfl
   |2,_=>rfl
   |3,_=>rfl
   |4,_=>rfl
   |n+5,hi=>exact absurd hi om),trivial⟩
 have zq:kX qC= .sl 5 fun i=>wdC (qC.getD i default):=rfl
 have g2:qC.getD 2 default=⟨[44],1,0,0,true,false,[]⟩:=rfl;have g3:qC.getD 3 default=⟨[101,116],1,0,0,false,false,[]⟩:=rfl;simp (disch:=omega) only[zq,wdC,go_sem]
 repeat' first
  |(apply qb;exact rvk;simp only[go_sem];exact qi)
  |with_reducible first|intro _|apply aiA
 all_goals try exact clz
theorem qd8.esE{x:Co}{l:List Un}{d:List Dc}{s:Nat}(h:qd8 x l d s):esE x l d s=0:=by
 have h1:vaE x l=0:=by
  unfold vaE;rw[ine (fun hc=>hc h.ca),ine];unfold rgB;rw[h.us,h.cv];simp
 have h2:qbH x l d=0:=by
  unfold qbH;rw[ine (by have:=h.dl;omega)];exact jD.2 h.pl
 have:=h.sl
 have:=h.ln
 unfold RC.esE;rw[h1,h2,ine (by simp),ine om,ine (by simp),ine (by rw[itn];omega)]
end RC
end
section
open Go Go.Proofs AF
end
section
open Go Go.Proofs AF HY LN
namespace RC
theorem quY{a:Cq}(h:mdB a=true):CqS a∧0≤a.lead∧qd8 a.x a.l a.d a.lead.toNat∧mdR a=bsW (rwA a.x a.l a.d a.lead.toNat):=by
 unfold mdB at h;rw[Bool.and_eq_true,Bool.not_eq_true',decide_eq_true_iff]at h;obtain⟨h1,h2⟩:=h;obtain⟨h3,h4⟩:=qfq h2;refine⟨qsE h1,h3,h4,?_⟩;unfold mdR;rw[ine (by simp[h1])];unfold esR;rw[ipo h2]
end RC
end
section
open Go Go.Proofs AF
end
section
open Go Go.Proofs AF HY LN
namespace RC
end RC
end
section
open Go Go.Proofs AF
end
section
open Go Go.Proofs AF HY LN
namespace RC
theorem qd8.va{x:Co}{l:List Un}{d:List Dc}{s:Nat}(h:qd8 x l d s):vaE x l=0:=by
 unfold vaE;rw[ine (fun hc=>hc h.ca),ine];unfold rgB;rw[h.us,h.cv];simp
end RC
end
section
open Go Go.Proofs AF
def qhA:List Nat:= []
def qEk:C:=
 ((C.ops [ON 3 (.nilo 0 7 36) []]).seq ((C.ops [ON 4 (.nilo 1 7 36) []]).seq (((C.ops [MV 7 0,O1 8 .len 7,MC 9 (i6 0)]).seq (C.block 0 ((C.ops [BI 10 .lss 9 8]).seq ((C.cond (.t
 10) C.skip (C.exit 0)).seq ((C.block 1 ((C.ops [MV 11 9,O2 12 (.idxA 7) 7 9,O1 13 (.load (some 7)) 12,⟨some 6,none,.alloc 2 36 [.str [],i6 0,i6 0,i6 0,.bool false,.bool
 false,.str []],[]⟩,MV 5 11,ST 7 6 13]).seq (((C.ops [O1 14 (.fldA 2) 6,LD 15 14,LD 16 1,BI 17 .eql 15 16]).seq (C.cond (.t 17) (C.exit 1) C.skip)).seq (((C.ops [MV 18 5,BC
 19 .eql 18 (i6 0),MV 20 19,P1 21 20 false (.fldA 2) 6,P1 22 20 false (.load none) 21,P1 23 20 false (.load none) 1,P2 24 20 false (.bin .gtr) 22 23,PT 25 20 24,MV 26 25,P1
 27 26 false (.fldA 2) 6,P1 28 26 false (.load none) 27,PC 29 26 false (.bin .lss) 28 (i6 0),PT 30 26 29]).seq (C.cond (.t 30) (C.ops [O1 31 (.fldA 4) 6,⟨none,none,.store 1,
 [.t 31,.c (.bool false)]⟩]) C.skip)).seq (C.ops [MV 32 4,O1 33 (.load (some 7)) 6,⟨some 34,none,.bslc 3 7 1 36 [.str [],i6 0,i6 0,i6 0,.bool false,.bool false,.str []]
 [(0,7)],[.t 33]⟩,O2 35 (.app 4 7 36 64) 32 34,MV 4 35]))))).seq (C.ops [BC 36 .add 9 (i6 1),MV 9 36])))).loop)).seq ((C.ops [MV 37 4,MV 3 37]).seq
 C.ret))))
theorem qCY:qM Tryz.prog 43 38 5 [RV.tmp 3] qEk:=fi Tryz.f43 [3,4,6,34,35] qhA []
def qBY:C:=
 ((C.ops [ON 2 (.nilo 0 4 43) []]).seq (((C.ops [MV 3 0,O1 4 (.isnil .slice false) 3]).seq (C.cond (.t 4) ((C.ops [ON 2 (.nilo 0 4 43) []]).seq C.ret) C.skip)).seq ((C.ops [⟨some
 5,none,.bslc 1 4 0 43 [i6 0,.str [],i6 0,.str []] [],[]⟩,MV 6 0,O2 7 (.app 2 4 43 48) 5 6,MV 2 7]).seq
 C.ret)))
theorem qur:qM Tryz.prog 24 8 3 [RV.tmp 2] qBY:=fi Tryz.f24 [2,5,7] qhA []
end
section
open Go Go.Proofs AF HY LN
namespace RC
theorem qDG(L:List Wd)(h:List AObj)(hn:L.length≤1000000000):ACalls Tryz.prog 44 [kX L,kX L] h (.bool true) h:=by
 have zl1: ∀g,valL g .len [kX L]= .int .i64 L.length:=fun _=>rfl
 have zl2: ∀g,okL g .len [kX L]=True:=fun _=>eqt trivial
 have z0:kX L= .sl L.length fun i=>wdC (L.getD i default):=rfl
 have qq:((L.length:Int)=L.length)=True:=eqt rfl;refine acO qCZ ?_;simp (disch:=omega) only[qEl,zl1,zl2,go_sem];refine qu (T:=fun i:Nat=>ze 26 [(0,kX L),(1,kX L),(5,.int .i64 i)]) (H:=fun _=>h) (inv:=fun i=>i≤L.length) (m:=fun i=>L.length-i) 0 (nzl _) (Wk.temps ?_) ?_
 ·(simp only[go_sem,qg,qc,qa,qf];try (repeat' first|(with_reducible apply aiA)|(apply qh;omega)|(apply qe;rfl)|exact qi))
 rintro i i1 K hK
 by_cases hi:i<L.length
 ·have k1:((i:Int)<L.length)=True:=eqt om;have k0:(0≤(i:Int))=True:=eqt om;obtain⟨w,hw⟩: ∃w,w=L.getD i default:=⟨_,rfl⟩
  have ew:=hw.symm;simp (disch:=omega) only[z0,wdC,k0,k1,ew,go_sem];refine hK _ _ (i+1) hi om (Wk.temps ?_)
  (simp only[z0,wdC,go_sem,qg,qc,qa,qf];try (repeat' first|(with_reducible apply aiA)|(apply qh;omega)|(apply qe;rfl)|exact qi))
 have k1:((i:Int)<L.length)=False:=eqf om;simp (disch:=omega) only[zl1,zl2,k1,go_sem]
 repeat' first
  |(apply qd;exact rvk;simp only[go_sem];exact qi)
theorem qih(u:Int)(b:List Wd): ∀n,(woG u b n).length≤n:=by
 intro n
 induction n with
 |zero=>exact nlr _
 |succ n ih=>
  rw[qcX,lap];split
  ·simp only[lnl];omega
  ·simp only[lco,lnl];omega
theorem qwJ(b:List Wd)(u:Int)(k v:Nat)(h:List AObj)(hk:qr k h=some (.mem v 3 [.int .i64 u]))(hn:b.length≤1000000):ACalls Tryz.prog 43 [kX b,.op k v 0] h (kX (woG u b b.length)) h:=by
 have hkl:=zG hk;have hc: ∀l,cellsOf (h++l) k v=some [.int .i64 u]:=fun l=>by
  have hk2:qr k (h++l)=some (.mem v 3 [.int .i64 u]):=by
   unfold qr at hk ⊢;rw[List.getElem?_append_left hkl];exact hk
  exact qP hk2
 have z0:kX b= .sl b.length fun i=>wdC (b.getD i default):=rfl
 have zl1: ∀g,valL g .len [kX b]= .int .i64 b.length:=fun _=>rfl
 have zl2: ∀g,okL g .len [kX b]=True:=fun _=>eqt trivial
 refine acO qCY ?_;simp (disch:=omega) only[qEk,zl1,zl2,go_sem];refine qu (T:=fun s:Nat×Nat×AObj×AObj=>ze 38 [(1,.op k v 0),(4,.osl (h.length+1) s.2.1 7 0 (woG u b s.1).length),(7,kX b),(8,.int .i64 b.length),(9,.int .i64 s.1)])
  (H:=fun s=>h++ [.emp 1,zk s.2.1 36 (jl (woG u b s.1)),s.2.2.1,s.2.2.2,.emp 0])
  (inv:=fun s=>s.1≤b.length∧qJ [s.2.2.1] 0=true∧qJ [s.2.2.2] 0=true) (m:=fun s=>b.length-s.1) (0,1,.emp 0,.emp 0) ⟨nzl _,rfl,rfl⟩ (Wk.temps ?_) ?_
 ·(simp only[woG,go_sem,qg,qc,qa,qf];try (repeat' first|(with_reducible apply aiA)|(apply qh;omega)|(apply qe;rfl)|exact qi))
 rintro⟨i,vb,O1,O2⟩ ⟨i1,i2,i3⟩ K hK;simp only at i1 i2 i3 hK;have i2': ∀m,qJ (O1::m) 0=true:=fun _=>i2
 have i3': ∀m,qJ (O2::m) 0=true:=fun _=>i3
 have hle:=qih u b i
 by_cases hi:i<b.length
 case neg=>
  have k1:((i:Int)<b.length)=False:=eqf om;obtain rfl:i=b.length:=by omega
  simp (disch:=omega) only[k1,go_sem]
  repeat' first
   |(apply qb;exact rvk;simp only[go_sem])
  exact qcU rfl
 have k1:((i:Int)<b.length)=True:=eqt om;have hS:=qcX u b i;obtain⟨w,hw⟩: ∃w,w=b.getD i default:=⟨_,rfl⟩
 have ew:=hw.symm;rw[ew]at hS;obtain⟨L,hL⟩: ∃L,L=woG u b i:=⟨_,rfl⟩
 rw[←hL]at hS hle ⊢;have eC:=qe1 L;have eTk:List.take (L.length*7) (jl L)=jl L:=ltl om
 by_cases g:w.unit=u
 ·have q1:(w.unit=u)=True:=eqt g;rw[ipo g,lan]at hS;simp (disch:=omega) only[z0,wdC,k1,ew,i2',i3',hc,q1,go_sem]
  repeat' first
   |with_reducible apply aiA
  all_goals try exact clz
  refine hK _ _ (i+1,vb,.mem (qo (some O1)+1) 36 (wdC w),O2) ⟨hi,rfl,i3⟩ (by simp only;omega) ?_;simp only[hS,wdC];refine Wk.temps ?_
  (simp only[go_sem,qg,qc,qa,qf];try (repeat' first|(with_reducible apply aiA)|(apply qh;omega)|(apply qe;rfl)|exact qi))
 have q1:(w.unit=u)=False:=eqf g;rw[ine g]at hS;have keep: ∀y:Wd,woG u b (i+1)=L++ [y]→jl L++wdC y=jl (woG u b (i+1)):=fun y e=>by rw[e,qie,qig]
 by_cases h0:i=0
 ·have q2:((i:Int)=0)=True:=eqt om;rw[ipo (.inl h0)]at hS;simp (disch:=omega) only[z0,wdC,k1,ew,i2',i3',hc,q1,eC,eTk,q2,go_sem]
  repeat' first
   |with_reducible apply aiA
  all_goals try exact clz
  have eA:=keep (qe3 w) hS;simp only[wdC,qe3]at eA
  try rw[eA]
  refine hK _ _ (i+1,vb+1,.mem (qo (some O1)+1) 36 (wdC (qe3 w)),.mem (qo (some O2)+1) 36 (wdC (qe3 w))) ⟨hi,rfl,rfl⟩ (by simp only;omega) ?_;simp only[hS,wdC,qe3,lap,lco,lnl];refine Wk.temps ?_
  (simp only[go_sem,qg,qc,qa,qf];try (repeat' first|(with_reducible apply aiA)|(apply qh;omega)|(apply qe;rfl)|exact qi))
 have q2:((i:Int)=0)=False:=eqf om
 by_cases g3:u<w.unit
 ·have q3:(u<w.unit)=True:=eqt g3;rw[ipo (.inr (.inl g3))]at hS;simp (disch:=omega) only[z0,wdC,k1,ew,i2',i3',hc,q1,eC,eTk,q2,q3,go_sem]
  repeat' first
   |with_reducible apply aiA
  all_goals try exact clz
  have eA:=keep (qe3 w) hS;simp only[wdC,qe3]at eA
  try rw[eA]
  refine hK _ _ (i+1,vb+1,.mem (qo (some O1)+1) 36 (wdC (qe3 w)),.mem (qo (some O2)+1) 36 (wdC (qe3 w))) ⟨hi,rfl,rfl⟩ (by simp only;omega) ?_;simp only[hS,wdC,qe3,lap,lco,lnl];refine Wk.temps ?_
  (simp only[go_sem,qg,qc,qa,qf];try (repeat' first|(with_reducible apply aiA)|(apply qh;omega)|(apply qe;rfl)|exact qi))
 have q3:(u<w.unit)=False:=eqf g3
 by_cases g4:w.unit<0
 ·have q4:(w.unit<0)=True:=eqt g4;rw[ipo (.inr (.inr g4))]at hS;simp (disch:=omega) only[z0,wdC,k1,ew,i2',i3',hc,q1,eC,eTk,q2,q3,q4,go_sem]
  repeat' first
   |with_reducible apply aiA
  all_goals try exact clz
  have eA:=keep (qe3 w) hS;simp only[wdC,qe3]at eA
  try rw[eA]
  refine hK _ _ (i+1,vb+1,.mem (qo (some O1)+1) 36 (wdC (qe3 w)),.mem (qo (some O2)+1) 36 (wdC (qe3 w))) ⟨hi,rfl,rfl⟩ (by simp only;omega) ?_;simp only[hS,wdC,qe3,lap,lco,lnl];refine Wk.temps ?_
  (simp only[go_sem,qg,qc,qa,qf];try (repeat' first|(with_reducible apply aiA)|(apply qh;omega)|(apply qe;rfl)|exact qi))
 have q4:(w.unit<0)=False:=eqf g4;rw[ine om]at hS;simp (disch:=omega) only[z0,wdC,k1,ew,i2',i3',hc,q1,eC,eTk,q2,q3,q4,go_sem]
 repeat' first
  |with_reducible apply aiA
 all_goals try exact clz
 have eA:=keep w hS;simp only[wdC]at eA
 try rw[eA]
 refine hK _ _ (i+1,vb+1,.mem (qo (some O1)+1) 36 (wdC w),.mem (qo (some O2)+1) 36 (wdC w)) ⟨hi,rfl,rfl⟩ (by simp only;omega) ?_;simp only[hS,wdC,lap,lco,lnl];refine Wk.temps ?_
 (simp only[go_sem,qg,qc,qa,qf];try (repeat' first|(with_reducible apply aiA)|(apply qh;omega)|(apply qe;rfl)|exact qi))
end RC
end
section
open Go Go.Proofs AF
def quI:List Nat:= [1000038,1000039,1000040,1000041,1000042,1000043,1000045,1000048,1000049,25,24]
def c7w:C:=
 ((C.ops [O1 2 (.box 0 75) 0,O1 3 (.box 1 43) 1,MC 4 (.bool false)]).seq ((C.ops [O1 13 (.load (some 7)) 2,O1 14 (.call 39 true) 13,MV 12 14,O1 15 (.ext 0) 12,O1 16 (.ext 1)
 12,MV 5 15,MV 6 16]).seq (((C.ops [MV 17 6,O1 18 (.un UnOp.not) 17,MV 19 18,P1 20 19 false (.load (some 4)) 3,⟨some 21,some (19,false),.bslc 2 4 1 43 [i6 0,.str [],i6 0,
 .str []] [(0,4)],[.t 20]⟩,P1 22 19 false (.call 23 true) 21,PT 23 19 22]).seq (C.cond (.t 23) ((C.ops [ON 24 (.call 40 true) [],MV 4 24]).seq C.ret) C.skip)).seq ((C.ops [O1
 26 (.fldA 0) 2,O1 27 (.load (some 4)) 26,O1 28 (.fldA 4) 2,LD 29 28,O1 30 (.load (some 4)) 3,ON 31 (.call 20 true) [.t 27,.t 29,.t 30],MV 25 31,O1 32 (.ext 0) 25,O1 33
 (.ext 1) 25,⟨some 7,none,.alloc 3 3 [i6 0],[]⟩,ST 1 7 32,MV 8 33]).seq (((C.ops [MV 34 8,BC 35 .neq 34 (i6 0)]).seq (C.cond (.t 35) ((C.ops [ON 36 (.call 40 true) [],MV 4
 36]).seq C.ret) C.skip)).seq ((C.wk.seq (C.draw (DT.one ⟨some 38,none,.fldI 0,[.t 2]⟩ (DT.one ⟨some 39,none,.loadI (some 4),[.t 38]⟩ (DT.one ⟨some 40,none,.fldI 4,[.t 2]⟩
 (DT.one ⟨some 41,none,.loadI none,[.t 40]⟩ (DT.one ⟨some 42,none,.fldI 5,[.t 2]⟩ (DT.one ⟨some 43,none,.loadI none,[.t 42]⟩ (DT.one ⟨some 45,none,.loadI (some 4),[.t
 3]⟩ (DT.one ⟨some 48,none,.fldI 6,[.t 2]⟩ (DT.one ⟨some 49,none,.loadI none,[.t 48]⟩ ((DT.one ⟨some 44,none,.call 24 false,[.t 43]⟩ (DT.one ⟨some 46,none,.bslc 4 4 1 43
 [i6 0,.str [],i6 0,.str []] [(0,4)],[.t 45]⟩ (DT.one ⟨some 47,none,.app 5 4 43 48,[.t 44,.t 46]⟩ (DT.one ⟨some 50,none,.call 25 false,[.t 39,.t 41,.t 47,.t 49]⟩
 (DT.one ⟨some 37,none,.mv,[.t 50]⟩ (DT.one ⟨some 51,none,.ext 0,[.t 37]⟩ (DT.one ⟨some 52,none,.ext 1,[.t 37]⟩ (DT.one ⟨some 9,none,.mv,[.t 51]⟩ (DT.one ⟨some 10,none,
 .mv,[.t 52]⟩ DT.nil))))))))).two (DT.one ⟨some 46,none,.bslc 4 4 1 43 [i6 0,.str [],i6 0,.str []] [(0,4)],[.t 45]⟩ (DT.one ⟨some 44,none,.call 24 false,[.t 43]⟩ (DT.one
 ⟨some 47,none,.app 5 4 43 48,[.t 44,.t 46]⟩ (DT.one ⟨some 50,none,.call 25 false,[.t 39,.t 41,.t 47,.t 49]⟩ (DT.one ⟨some 37,none,.mv,[.t 50]⟩ (DT.one ⟨some 51,none,
 .ext 0,[.t 37]⟩ (DT.one ⟨some 52,none,.ext 1,[.t 37]⟩ (DT.one ⟨some 9,none,.mv,[.t 51]⟩ (DT.one ⟨some 10,none,.mv,[.t 52]⟩ DT.nil))))))))))))))))))))).seq (((C.ops [MV 53
 10,BC 54 .neq 53 (i6 0)]).seq (C.cond (.t 54) ((C.ops [MV 55 10,BC 56 .eql 55 (i6 4),MV 57 56,PN 58 57 true (.call 40 true) [],PF 59 57 58,MV 4 59]).seq C.ret) C.skip)).seq
 ((C.ops [O1 60 (.mkfn (Fn.func 43) 0) 7,MV 11 60]).seq ((C.ops [MV 61 11,MV 62 5,O2 63 .callv 61 62,MV 64 11,MV 65 9,O2 66 .callv 64 65,O2 67 (.call 44 true) 63 66,MV 68
 67,PN 69 68 true (.call 40 true) [],PF 70 68 69,MV 4 70]).seq
 C.ret)))))))))
theorem qjU:qM Tryz.prog 7 71 7 [RV.tmp 4] c7w:=fi Tryz.f7 [2,3,21,7,46,47,44] quI [7]
end
section
open Go Go.Proofs AF HY LN
namespace RC
def qa7(L:List Dc):List AV:=L.flatMap dcC
theorem qlC(u:Dc):(dcC u).length=4:=rfl
theorem qaS(L:List Dc):(qa7 L).length=L.length*4:=by
 unfold qa7
 induction L with
 |nil=>rfl
 |cons a L ih=>rw[List.flatMap_cons,lap,ih,lco,qlC];omega
theorem qeh(A B:List Dc):qa7 (A++B)=qa7 A++qa7 B:=by simp[qa7]
theorem qej(a:Dc):qa7 [a]=dcC a:=by simp[qa7]
theorem qlD(L:List Dc): ∀i,(qa7 L).drop (i*4)=qa7 (L.drop i):=by
 induction L with
 |nil=>intro i;simp[qa7]
 |cons a L ih=>
  intro i;cases i with
  |zero=>simp
  |succ i=>
   rw[show qa7 (a::L)=dcC a++qa7 L from rfl,show (a::L).drop (i+1)=L.drop i from rfl,←ih i];rw[show (i+1)*4=(dcC a).length+i*4 by rw[qlC];omega,List.drop_append,List.drop_eq_nil_of_le om,lna,Nat.add_sub_cancel_left]
theorem qei{L:List Dc}{i:Nat}(hi:i<L.length):((qa7 L).drop (i*4)).take 4=dcC (L.getD i default):=by
 rw[qlD,List.drop_eq_getElem_cons hi,gdqA,zL hi];rfl
theorem qp8(L:List Dc):((List.range L.length).flatMap fun i=>dcC (L.getD i default))=qa7 L:=by
 unfold qa7;have e:L=(List.range L.length).map fun i=>L.getD i default:=by
  apply List.ext_getElem (by simp);intro i h1 h2;simp[gdqA,h1]
 conv=>rhs;rw[e]
 rw[List.flatMap_map]
theorem qvX(h:List AObj)(L:List Dc):qk h (kl L)=some (L.length,qa7 L):=by
 show some (L.length,_)=_;rw[qp8]
theorem qpO(L:List Dc)(n:Nat): ∀c∈qa7 L,qV n c=true:=by
 intro c hc;unfold qa7 at hc;obtain⟨x,_,hx⟩:=List.mem_flatMap.1 hc;simp only[dcC,List.mem_cons,List.not_mem_nil,or_false]at hx;rcases hx with rfl|rfl|rfl|rfl<;>rfl
theorem qms{L:List Dc}(h:L≠ []):valP (.isnil .slice false) [kl L]= .bool false:=by
 unfold kl;rw[qat,ine (by simpa using h)];rfl
theorem qCx(L:List Dc)(h:List AObj)(k:Nat)(hk:qJ h k=true)(h0:L≠ [])(hl:L.length≤1000000000):
  ACalls Tryz.prog 24 [kl L] h (.osl k (qo (qr k h)+1) 4 0 L.length) (qn k h (.mem (qo (qr k h)+1) 43 (qa7 L))):=by
 have s1:=fun h=>qvX h L
 have eP:=qaS L;have hp:=List.length_pos_iff.2 h0;have z0:=qms h0;have z1:okP (.isnil .slice false) [kl L]=True:=eqt trivial;refine qcY qur k (by simp) ?_;simp only[lco,lnl,Nat.reduceAdd,Nat.reduceSub,List.replicate,lca,lna];simp (disch:=omega) only[qBY,s1,z0,z1,go_sem]
 repeat' first
  |(with_reducible apply aiA)
 all_goals first
  |omega
  |contradiction
  |skip
 all_goals try rfl
 exact⟨h.length+1,2,4,0,L.length,43,qa7 L,_,⟨trivial,trivial⟩,rfl,rfl,om,by simp only[go_sem],qpO L _,hk,rfl,rfl⟩
theorem qCv(h:List AObj):ACalls Tryz.prog 24 [.nl] h .nl h:=by
 refine acO qur ?_;simp (disch:=omega) only[qBY,go_sem]
 repeat' first
  |(apply qb;exact rvk;simp only[go_sem];exact qi)
theorem qCw(h:List AObj)(k:Nat)(hk:qJ h k=true):ACalls Tryz.prog 24 [.el] h (.osl k (qo (qr k h)+1) 4 0 0) (qn k h (.mem (qo (qr k h)+1) 43 [])):=by
 refine qcY qur k (by simp) ?_;simp only[lco,lnl,Nat.reduceAdd,Nat.reduceSub,List.replicate,lca,lna];simp (disch:=omega) only[qBY,go_sem]
 repeat' first
  |(with_reducible apply aiA)
 all_goals first
  |omega
  |contradiction
  |skip
 all_goals try rfl
 exact⟨h.length+1,2,4,0,0,43,[],_,⟨trivial,trivial⟩,rfl,rfl,om,by simp only[go_sem],(fun c hc=>by cases hc),hk,rfl,rfl⟩
theorem qCN{x:Co}{l:List Un}{d:List Dc}{s:Int}{hh:List AObj}{j v:Nat}{cs:List AV}{r:AV}(hj:qr j hh=some (.mem v 43 cs))(hcs: ∀i,i<d.length→(cs.drop (i*4)).take 4=dcC (d.getD i default))(hl:d.length*4≤cs.length)
  (hE:ACalls Tryz.prog 25 [.agg (coC x),zS l,kl d,.int .i64 s] (qn j hh (.emp (v+1))) r (qn j hh (.emp (v+1)))):ACalls Tryz.prog 25 [.agg (coC x),zS l,.osl j v 4 0 d.length,.int .i64 s] hh r (qn j hh (.emp (v+1))):=by
 have hs:qJ hh j=true:=by unfold qJ;rw[hj]
 have e1:qbx [j] hh=qn j hh (.emp (v+1)):=by show qn j hh (.emp (qo (qr j hh)+1))=_;rw[hj];rfl
 refine ACalls.frzd [j] (by show (qJ hh j&&true)=true;rw[hs];rfl) ?_;rw[e1];refine hE.le ⟨?_,?_,?_,qi,trivial⟩ (qi)
 ·unfold coC;simp only[go_sem,List.map_cons,List.map_nil];exact qi
 ·exact qi
 ·have e: [j].contains j=true:=by simp
  simp only[go_sem,e,if_true];rw[hj,slOf_mem,ipo ⟨rfl,by rw[Nat.zero_add];exact hl⟩];refine VLe.sl_eq rfl (fun i hi=> ?_);rw[Nat.zero_add,hcs i hi];rfl
theorem _root_.AF.ACalls.sl0g{P:Program}{f:FuncId}{pre post rest:List AV}{g:Nat→List AV}{h h':List AObj}{r:AV}(h1:ACalls P f (.agg (pre++ .nl::post)::rest) h r h')(h2:ACalls P f (.agg (pre++ .el::post)::rest) h r h'):
  ACalls P f (.agg (pre++ .sl 0 g::post)::rest) h r h':=by
 refine⟨h1.1,fun w σ xs H hv=> ?_⟩;obtain⟨x,xr,rfl,hx,hxr⟩:=hv.cons;obtain⟨vs,rfl,hl,h3,hc⟩:=qbU hx;have hlt:pre.length<vs.size:=by rw[hl];simp
 have hp:=hc pre.length (.sl 0 g) vs[pre.length] (by simp) (Array.getElem?_eq_getElem hlt);have go: ∀a,VR w σ a vs[pre.length]→VRs w σ (.agg (pre++a::post)::rest) (.agg vs::xr):=by
  intro a ha;refine⟨by simp[hxr.1],fun i c y hci hyi=> ?_⟩;cases i with
  |succ i=>exact hxr.2 i c y (by simpa using hci) (by simpa using hyi)
  |zero=>
   simp at hci hyi;subst hci hyi;refine .agg (by rw[hl];simp) h3 (fun j c y hcj hyj=> ?_)
   by_cases e:j=pre.length
   ·subst e;simp at hcj;subst hcj;rw[Array.getElem?_eq_getElem hlt]at hyj;cases hyj;exact ha
   ·refine hc j c y ?_ hyj;rw[←hcj];rcases Nat.lt_or_ge j pre.length with hi|hi
    ·rw[List.getElem?_append_left hi,List.getElem?_append_left hi]
    ·rw[List.getElem?_append_right hi,List.getElem?_append_right hi,show j-pre.length=(j-pre.length-1)+1 by omega];rfl
 rcases qs2 hp with hn|hn
 ·exact h1.2 w σ _ H (go _ hn)
 ·exact h2.2 w σ _ H (go _ hn)
theorem qlJ{x:Co}{l:List Un}{d:List Dc}{o:Dc}{s:Nat}(h:qd8 x l d s)(ho:qay x l o=0)(hd:d.length≤255):esE x l (d++ [o]) s=0∨esE x l (d++ [o]) s=4:=by
 have h1:=h.va;have hs:=h.sl;have h2:qbH x l (d++ [o])=0:=by
  unfold qbH;rw[ine (by simp;omega)];refine jD.2 fun j hj=> ?_
  rw[lap,List.length_singleton]at hj
  by_cases e:j<d.length
  ·rw[jE e];exact h.pl j e
  ·have e2:j=d.length:=by omega
   have:=jQ (L:=d) (M:= [o]) (a:=default) (i:=0)
   rw[Nat.add_zero]at this;rw[e2,this];exact ho
 unfold esE;rw[h1,h2,ine (by simp),ine om,ine (by simp)];split
 ·exact .inr rfl
 ·exact .inl rfl
theorem qlK{x:Co}{l:List Un}{d:List Dc}{o:Dc}{s:Nat}(h:qd8 x l d s)(h':qd8 x l (d++ [o]) s)(ho:qay x l o=0):
  woG (km x l o) (bsW (rwA x l d s)) (bsW (rwA x l d s)).length=woG (km x l o) (bsW (rwA x l (d++ [o]) s)) (bsW (rwA x l (d++ [o]) s)).length:=by
 have h1:=(qbb ho).2.2.2.2.1;have h2:=(ql7 l (kY x (zP x o.sig).toNat o.tok)).2;obtain⟨k,hk⟩: ∃k:Nat,km x l o=k:=⟨(km x l o).toNat,om⟩
 have hkl:k<l.length:=by
  have:fnU l (kY x (zP x o.sig).toNat o.tok)=k:=hk
  omega
 rw[hk];refine qmY h h' hkl fun j hj hne=> ?_
 exact (qvM (by rw[hk];omega)).symm
theorem quR(a:Cq)(o:Dc)(h:List AObj)(hp:kQ SG h)(hg:zK h frmN frmC)(hb:CqB a)(hd0:a.d= []):
  ACalls Tryz.prog 7 [.agg [.str a.x.sec,strs a.x.sig,qm a.x.tok,qw a.x.col,zS a.l,.nl,.int .i64 a.lead],.agg (dcC o)] h (.bool true) h:=by
 have c1:=fun l'=>(quX a (h++l') hb (hp.app l') hg.app).le (args:= [.agg [.str a.x.sec,strs a.x.sig,qm a.x.tok,qw a.x.col,zS a.l,.nl,.int .i64 a.lead]]) ⟨VLe.agg ⟨qi,qi,qi,qi,qi,by rw[hd0];exact zf,qi,trivial⟩,trivial⟩ (qi)
 have c2:=fun l'=>qtg (h++l') (hp.app l') hg.app
 obtain⟨B,hB⟩: ∃B,B=mdB a:=⟨_,rfl⟩
 obtain⟨R,hR⟩: ∃R,R=mdR a:=⟨_,rfl⟩
 simp only[←hB,←hR]at c1;cases B with
 |false=>
  refine acO qjU ?_;simp (disch:=omega) only[c7w,dcC,go_sem]
  repeat' first
   |(refine qj ( .bool false) ?_;simp (disch:=omega) only[go_sem])
   |((first|refine cA (c1 _) ?_ ?_|refine cA (c2 _) ?_ ?_);exact flk;simp (disch:=omega) only[go_sem])
   |(apply qb;exact rvk;simp only[go_sem];exact qi)
   |with_reducible apply aiA
  all_goals try exact clz
 |true=>
 obtain⟨z,e0,E,hRe⟩:=quY hB.symm;rw[←hR]at hRe;have zx:=z.x;have zu:=z.l;have zd:=z.d;have zt:=z.t;obtain⟨s,hs⟩: ∃s:Nat,a.lead=s:=⟨a.lead.toNat,om⟩
 rw[hs,itn]at E hRe;rw[hs]at c1 ⊢;have hln:=E.ln;have hva:=E.va;have hlen:R.length=(rwA a.x a.l a.d s).length:=by rw[hRe,j9]
 have zg:qk [] (kl [o])=qk [] (kl [o]):=rfl;have c3: ∀H j v cs,qr j H=some (.mem v 43 (dcC o++cs))→ACalls Tryz.prog 23 [.osl j v 4 0 1] H (.bool (qiR [o])) H:=fun H j v cs hj=>by
  refine ACalls.borrow ((qqn [o] [] (by simp)).le ⟨?_,trivial⟩ (qi)) rfl;simp only[rei_osl,if_true,go_sem];rw[hj,slOf_mem,ipo ⟨rfl,by simp[dcC]⟩];refine VLe.sl_eq rfl (fun i hi=> ?_);obtain rfl:i=0:=by omega
  rfl
 unfold dcC at c3;cases hgo:qiR [o]with
 |true=>
  simp only[hgo]at c3;refine acO qjU ?_;simp (disch:=omega) only[c7w,dcC,go_sem]
  repeat' first
   |(refine cA (c1 _) flk ?_;simp (disch:=omega) only[go_sem])
   |with_reducible apply aiA
  all_goals try exact clz
  refine cG (fun _=>c3 _ _ _ (List.drop 4 (qY [.int .i64 0,.str [],.int .i64 0,.str []] 1)) ?jj0) (fun _=>by exact flk) ?_
  case jj0=>simp only[go_sem]
  simp (disch:=omega) only[go_sem]
  repeat' first
   |(refine cA (c2 _) flk ?_;simp (disch:=omega) only[go_sem])
   |(apply qb;exact rvk;simp only[go_sem];exact qi)
 |false=>
 simp only[hgo]at c3;obtain⟨_,_,g3⟩:=qeo hgo;have g4:=g3 o (by simp);have c4:=fun l'=>qDO a.x a.l o (h++l') zx zu (hp.app l') hg.app om
 have hu:qj0 a.x a.l o=qay a.x a.l o:=by unfold qj0;rw[ine (by simp[hva])]
 rw[hu]at c4;unfold coC dcC at c4
 by_cases e1:qay a.x a.l o=0
 case neg=>
  have k1:(qay a.x a.l o=0)=False:=eqf e1;obtain⟨Y,hY⟩: ∃Y,Y=qay a.x a.l o:=⟨_,rfl⟩
  simp only[←hY]at c4 k1;refine acO qjU ?_;simp (disch:=omega) only[c7w,dcC,go_sem]
  repeat' first
   |(refine cA (c1 _) flk ?_;simp (disch:=omega) only[go_sem])
   |with_reducible apply aiA
  all_goals try exact clz
  refine cG (fun _=>c3 _ _ _ (List.drop 4 (qY [.int .i64 0,.str [],.int .i64 0,.str []] 1)) ?jj1) (fun _=>by exact flk) ?_
  case jj1=>simp only[go_sem]
  simp (disch:=omega) only[go_sem]
  repeat' first
   |((first|refine cA (c4 _) ?_ ?_|refine cA (c2 _) ?_ ?_);exact flk;simp (disch:=omega) only[k1,go_sem])
   |(apply qb;exact rvk;simp only[go_sem];exact qi)
   |with_reducible apply aiA
  all_goals try exact clz
 have hun:qrY a.x a.l o=km a.x a.l o:=by unfold qrY;rw[ipo (hu.trans e1)]
 rw[hun]at c4;simp only[e1]at c4;have hap:=qlJ E e1 om;have hoth:=fun E'=>qlK E E' e1
 rw[←hRe]at hoth;have ht2: ∀y∈a.d++ [o],y.txt.length≤1000:=fun y hy=>by
  rcases List.mem_append.1 hy with hy|hy
  ·have:=zt y hy;omega
  ·rw[List.mem_singleton]at hy;subst hy;omega
 have hlim:vaE a.x a.l=0→(rwA a.x a.l (a.d++ [o]) (s:Int).toNat).length≤1000000000:=fun g=>qdm (by have:=z.cl;omega) ht2 g
 have eA0:=fun l'=>que a.x a.l (a.d++ [o]) s (h++l') zx zu (hp.app l') hg.app (by simp;omega) ht2 hlim
 obtain⟨k,hk⟩: ∃k,k=km a.x a.l o:=⟨_,rfl⟩
 obtain⟨E2,hE2⟩: ∃E2,E2=esE a.x a.l (a.d++ [o]) s:=⟨_,rfl⟩
 obtain⟨R2,hR2⟩: ∃R2,R2=esR a.x a.l (a.d++ [o]) s:=⟨_,rfl⟩
 simp only[←hk]at c4 hoth;rw[←hE2]at hap;simp only[←hE2,←hR2]at eA0;have hR2l:R2.length≤1024:=by rw[hR2];exact qgr
 have eE0: ∀L cs,qr (h.length+5) (h++L)=some (.mem 1 43 cs)→cs=qa7 (a.d++ [o])→ACalls Tryz.prog 25 [.agg (coC a.x),zS a.l,.osl (h.length+5) 1 4 0 1,.int .i64 (s:Int)] (h++L) (.tup [kX R2,.int .i64 E2]) (qn (h.length+5) (h++L) (.emp (1+1))):=fun L cs hL hcs=>by
  have e:qn (h.length+5) (h++L) (.emp (1+1))=h++qn 5 L (.emp (1+1)):=setO_app;have hln2:(a.d++ [o]).length=1:=by simp[hd0]
  have key:=qCN (x:=a.x) (l:=a.l) (d:=a.d++ [o]) (s:=(s:Int)) (r:= .tup [kX R2,.int .i64 E2]) hL (fun i hi=>by rw[hcs];exact qei hi) (by rw[hcs,qaS];exact nlr _) (by rw[e];exact eA0 _);rw[hln2]at key;exact key
 unfold coC at eE0;have hd1:a.d.length=0:=by rw[hd0];rfl
 have hcs: [.int .i64 o.kind,.str o.sig,.int .i64 o.tok,.str o.txt]=qa7 (a.d++ [o]):=by rw[qeh,qej,hd0];rfl
 have gt0:([h.length,h.length+1]:List Nat).contains h.length=true:=by simp
 have gt1:([h.length,h.length+1]:List Nat).contains (h.length+1)=true:=by simp
 have gt2:([h.length,h.length+1]:List Nat).contains (h.length+2)=false:=by simp
 have gt3:([h.length,h.length+1]:List Nat).contains (h.length+3)=false:=by simp
 refine acO qjU ?_;simp (disch:=omega) only[c7w,dcC,go_sem]
 repeat' first
  |(refine cA (c1 _) flk ?_;simp (disch:=omega) only[go_sem])
  |with_reducible apply aiA
 all_goals try exact clz
 refine cG (fun _=>c3 _ _ _ (List.drop 4 (qY [.int .i64 0,.str [],.int .i64 0,.str []] 1)) ?jj2) (fun _=>by exact flk) ?_
 case jj2=>simp only[go_sem]
 simp (disch:=omega) only[go_sem]
 repeat' first
  |(refine cA (c4 _) flk ?_;simp (disch:=omega) only[go_sem])
  |with_reducible apply aiA
 all_goals try exact clz
 refine⟨_,_,Wk.freeze [h.length,h.length+1] ?w1,?_⟩
 case w1=>simp only[kK,go_sem]
 simp (disch:=omega) only[qbx,gt0,gt1,gt2,gt3,Bool.false_eq_true,go_sem];refine jB ?T ?H ?h1 ?h2
 case h1=>
  simp (disch:=omega) only[go_sem]
  repeat' first
   |(with_reducible apply aiA)
   |(refine qx (qCv _) (by exact flk) ?_;simp (disch:=omega) only[go_sem])
   |(refine qx (eE0 _ ([.int .i64 o.kind,.str o.sig,.int .i64 o.tok,.str o.txt]) (by simp only[go_sem]) hcs) (by exact flk) ?_;simp (disch:=omega) only[go_sem])
  all_goals first
   |omega
   |rfl
   |(rw[bne_iff_ne];omega)
   |skip
 case h2=>
 rcases hap with e4|e4
 case inr=>
  have k1:(E2=0)=False:=eqf om;have k2:(E2=4)=True:=eqt e4;simp (disch:=omega) only[go_sem]
  repeat' first
   |(refine cG (fun e=>c2 _) flk ?_;simp (disch:=omega) only[k1,k2,go_sem])
   |(apply qb;exact rvk;simp only[go_sem];exact qi)
   |with_reducible first|intro _|apply aiA
  all_goals try exact clz
 have k1:(E2=0)=True:=eqt e4;obtain⟨_,E3⟩:=qfq (hE2.symm.trans e4);rw[itn]at E3;have hR3:R2=bsW (rwA a.x a.l (a.d++ [o]) s):=by rw[hR2];unfold esR;rw[ipo (hE2.symm.trans e4),itn]
 have hw:=hoth E3;rw[←hR3]at hw;have hwl:=qih k R R.length;have c5:=fun L hk=>qwJ R k (h.length+3) 1 (h++L) hk om
 have c6:=fun L hk=>qwJ R2 k (h.length+3) 1 (h++L) hk om
 rw[←hw]at c6;have c7:=fun h=>qDG (woG k R R.length) h om
 simp (disch:=omega) only[go_sem]
 repeat' first
  |with_reducible first|intro _|apply aiA
 all_goals try exact clz
 refine qy (c5 _ (by simp only[go_sem])) ?_;simp (disch:=omega) only[go_sem];refine qy (c6 _ (by simp only[go_sem])) ?_;simp (disch:=omega) only[go_sem]
 repeat' first
  |((first|refine cA (c7 _) ?_ ?_|refine cG (fun e=>c2 _) ?_ ?_);exact flk;simp (disch:=omega) only[go_sem])
  |(apply qb;exact rvk;simp only[go_sem];exact qi)
theorem quQ(a:Cq)(o:Dc)(h:List AObj)(hp:kQ SG h)(hg:zK h frmN frmC)(hb:CqB a)(hd0:a.d= []):
  ACalls Tryz.prog 7 [.agg [.str a.x.sec,strs a.x.sig,qm a.x.tok,qw a.x.col,zS a.l,.el,.int .i64 a.lead],.agg (dcC o)] h (.bool true) h:=by
 have c1:=fun l'=>(quX a (h++l') hb (hp.app l') hg.app).le (args:= [.agg [.str a.x.sec,strs a.x.sig,qm a.x.tok,qw a.x.col,zS a.l,.el,.int .i64 a.lead]]) ⟨VLe.agg ⟨qi,qi,qi,qi,qi,by rw[hd0];exact qj1,qi,trivial⟩,trivial⟩ (qi)
 have c2:=fun l'=>qtg (h++l') (hp.app l') hg.app
 obtain⟨B,hB⟩: ∃B,B=mdB a:=⟨_,rfl⟩
 obtain⟨R,hR⟩: ∃R,R=mdR a:=⟨_,rfl⟩
 simp only[←hB,←hR]at c1;cases B with
 |false=>
  refine acO qjU ?_;simp (disch:=omega) only[c7w,dcC,go_sem]
  repeat' first
   |(refine qj ( .bool false) ?_;simp (disch:=omega) only[go_sem])
   |((first|refine cA (c1 _) ?_ ?_|refine cA (c2 _) ?_ ?_);exact flk;simp (disch:=omega) only[go_sem])
   |(apply qb;exact rvk;simp only[go_sem];exact qi)
   |with_reducible apply aiA
  all_goals try exact clz
 |true=>
 obtain⟨z,e0,E,hRe⟩:=quY hB.symm;rw[←hR]at hRe;have zx:=z.x;have zu:=z.l;have zd:=z.d;have zt:=z.t;obtain⟨s,hs⟩: ∃s:Nat,a.lead=s:=⟨a.lead.toNat,om⟩
 rw[hs,itn]at E hRe;rw[hs]at c1 ⊢;have hln:=E.ln;have hva:=E.va;have hlen:R.length=(rwA a.x a.l a.d s).length:=by rw[hRe,j9]
 have zg:qk [] (kl [o])=qk [] (kl [o]):=rfl;have c3: ∀H j v cs,qr j H=some (.mem v 43 (dcC o++cs))→ACalls Tryz.prog 23 [.osl j v 4 0 1] H (.bool (qiR [o])) H:=fun H j v cs hj=>by
  refine ACalls.borrow ((qqn [o] [] (by simp)).le ⟨?_,trivial⟩ (qi)) rfl;simp only[rei_osl,if_true,go_sem];rw[hj,slOf_mem,ipo ⟨rfl,by simp[dcC]⟩];refine VLe.sl_eq rfl (fun i hi=> ?_);obtain rfl:i=0:=by omega
  rfl
 unfold dcC at c3;cases hgo:qiR [o]with
 |true=>
  simp only[hgo]at c3;refine acO qjU ?_;simp (disch:=omega) only[c7w,dcC,go_sem]
  repeat' first
   |(refine cA (c1 _) flk ?_;simp (disch:=omega) only[go_sem])
   |with_reducible apply aiA
  all_goals try exact clz
  refine cG (fun _=>c3 _ _ _ (List.drop 4 (qY [.int .i64 0,.str [],.int .i64 0,.str []] 1)) ?jj0) (fun _=>by exact flk) ?_
  case jj0=>simp only[go_sem]
  simp (disch:=omega) only[go_sem]
  repeat' first
   |(refine cA (c2 _) flk ?_;simp (disch:=omega) only[go_sem])
   |(apply qb;exact rvk;simp only[go_sem];exact qi)
 |false=>
 simp only[hgo]at c3;obtain⟨_,_,g3⟩:=qeo hgo;have g4:=g3 o (by simp);have c4:=fun l'=>qDO a.x a.l o (h++l') zx zu (hp.app l') hg.app om
 have hu:qj0 a.x a.l o=qay a.x a.l o:=by unfold qj0;rw[ine (by simp[hva])]
 rw[hu]at c4;unfold coC dcC at c4
 by_cases e1:qay a.x a.l o=0
 case neg=>
  have k1:(qay a.x a.l o=0)=False:=eqf e1;obtain⟨Y,hY⟩: ∃Y,Y=qay a.x a.l o:=⟨_,rfl⟩
  simp only[←hY]at c4 k1;refine acO qjU ?_;simp (disch:=omega) only[c7w,dcC,go_sem]
  repeat' first
   |(refine cA (c1 _) flk ?_;simp (disch:=omega) only[go_sem])
   |with_reducible apply aiA
  all_goals try exact clz
  refine cG (fun _=>c3 _ _ _ (List.drop 4 (qY [.int .i64 0,.str [],.int .i64 0,.str []] 1)) ?jj1) (fun _=>by exact flk) ?_
  case jj1=>simp only[go_sem]
  simp (disch:=omega) only[go_sem]
  repeat' first
   |((first|refine cA (c4 _) ?_ ?_|refine cA (c2 _) ?_ ?_);exact flk;simp (disch:=omega) only[k1,go_sem])
   |(apply qb;exact rvk;simp only[go_sem];exact qi)
   |with_reducible apply aiA
  all_goals try exact clz
 have hun:qrY a.x a.l o=km a.x a.l o:=by unfold qrY;rw[ipo (hu.trans e1)]
 rw[hun]at c4;simp only[e1]at c4;have hap:=qlJ E e1 om;have hoth:=fun E'=>qlK E E' e1
 rw[←hRe]at hoth;have ht2: ∀y∈a.d++ [o],y.txt.length≤1000:=fun y hy=>by
  rcases List.mem_append.1 hy with hy|hy
  ·have:=zt y hy;omega
  ·rw[List.mem_singleton]at hy;subst hy;omega
 have hlim:vaE a.x a.l=0→(rwA a.x a.l (a.d++ [o]) (s:Int).toNat).length≤1000000000:=fun g=>qdm (by have:=z.cl;omega) ht2 g
 have eA0:=fun l'=>que a.x a.l (a.d++ [o]) s (h++l') zx zu (hp.app l') hg.app (by simp;omega) ht2 hlim
 obtain⟨k,hk⟩: ∃k,k=km a.x a.l o:=⟨_,rfl⟩
 obtain⟨E2,hE2⟩: ∃E2,E2=esE a.x a.l (a.d++ [o]) s:=⟨_,rfl⟩
 obtain⟨R2,hR2⟩: ∃R2,R2=esR a.x a.l (a.d++ [o]) s:=⟨_,rfl⟩
 simp only[←hk]at c4 hoth;rw[←hE2]at hap;simp only[←hE2,←hR2]at eA0;have hR2l:R2.length≤1024:=by rw[hR2];exact qgr
 have eE0: ∀L cs,qr (h.length+6) (h++L)=some (.mem 2 43 cs)→cs=qa7 (a.d++ [o])→ACalls Tryz.prog 25 [.agg (coC a.x),zS a.l,.osl (h.length+6) 2 4 0 1,.int .i64 (s:Int)] (h++L) (.tup [kX R2,.int .i64 E2]) (qn (h.length+6) (h++L) (.emp (2+1))):=fun L cs hL hcs=>by
  have e:qn (h.length+6) (h++L) (.emp (2+1))=h++qn 6 L (.emp (2+1)):=setO_app;have hln2:(a.d++ [o]).length=1:=by simp[hd0]
  have key:=qCN (x:=a.x) (l:=a.l) (d:=a.d++ [o]) (s:=(s:Int)) (r:= .tup [kX R2,.int .i64 E2]) hL (fun i hi=>by rw[hcs];exact qei hi) (by rw[hcs,qaS];exact nlr _) (by rw[e];exact eA0 _);rw[hln2]at key;exact key
 unfold coC at eE0;have hd1:a.d.length=0:=by rw[hd0];rfl
 have hcs: [.int .i64 o.kind,.str o.sig,.int .i64 o.tok,.str o.txt]=qa7 (a.d++ [o]):=by rw[qeh,qej,hd0];rfl
 have gt0:([h.length,h.length+1]:List Nat).contains h.length=true:=by simp
 have gt1:([h.length,h.length+1]:List Nat).contains (h.length+1)=true:=by simp
 have gt2:([h.length,h.length+1]:List Nat).contains (h.length+2)=false:=by simp
 have gt3:([h.length,h.length+1]:List Nat).contains (h.length+3)=false:=by simp
 refine acO qjU ?_;simp (disch:=omega) only[c7w,dcC,go_sem]
 repeat' first
  |(refine cA (c1 _) flk ?_;simp (disch:=omega) only[go_sem])
  |with_reducible apply aiA
 all_goals try exact clz
 refine cG (fun _=>c3 _ _ _ (List.drop 4 (qY [.int .i64 0,.str [],.int .i64 0,.str []] 1)) ?jj2) (fun _=>by exact flk) ?_
 case jj2=>simp only[go_sem]
 simp (disch:=omega) only[go_sem]
 repeat' first
  |(refine cA (c4 _) flk ?_;simp (disch:=omega) only[go_sem])
  |with_reducible apply aiA
 all_goals try exact clz
 refine⟨_,_,Wk.freeze [h.length,h.length+1] ?w1,?_⟩
 case w1=>simp only[kK,go_sem]
 simp (disch:=omega) only[qbx,gt0,gt1,gt2,gt3,Bool.false_eq_true,go_sem];refine jB ?T ?H ?h1 ?h2
 case h1=>
  simp (disch:=omega) only[go_sem]
  repeat' first
   |(with_reducible apply aiA)
   |(refine qx (qCw _ (h.length+6) (by simp only[go_sem])) (by exact flk) ?_;simp (disch:=omega) only[go_sem])
   |(refine qx (eE0 _ ([.int .i64 o.kind,.str o.sig,.int .i64 o.tok,.str o.txt]) (by simp only[go_sem]) hcs) (by exact flk) ?_;simp (disch:=omega) only[go_sem])
  all_goals first
   |omega
   |rfl
   |(rw[bne_iff_ne];omega)
   |skip
 case h2=>
 rcases hap with e4|e4
 case inr=>
  have k1:(E2=0)=False:=eqf om;have k2:(E2=4)=True:=eqt e4;simp (disch:=omega) only[go_sem]
  repeat' first
   |(refine cG (fun e=>c2 _) flk ?_;simp (disch:=omega) only[k1,k2,go_sem])
   |(apply qb;exact rvk;simp only[go_sem];exact qi)
   |with_reducible first|intro _|apply aiA
  all_goals try exact clz
 have k1:(E2=0)=True:=eqt e4;obtain⟨_,E3⟩:=qfq (hE2.symm.trans e4);rw[itn]at E3;have hR3:R2=bsW (rwA a.x a.l (a.d++ [o]) s):=by rw[hR2];unfold esR;rw[ipo (hE2.symm.trans e4),itn]
 have hw:=hoth E3;rw[←hR3]at hw;have hwl:=qih k R R.length;have c5:=fun L hk=>qwJ R k (h.length+3) 1 (h++L) hk om
 have c6:=fun L hk=>qwJ R2 k (h.length+3) 1 (h++L) hk om
 rw[←hw]at c6;have c7:=fun h=>qDG (woG k R R.length) h om
 simp (disch:=omega) only[go_sem]
 repeat' first
  |with_reducible first|intro _|apply aiA
 all_goals try exact clz
 refine qy (c5 _ (by simp only[go_sem])) ?_;simp (disch:=omega) only[go_sem];refine qy (c6 _ (by simp only[go_sem])) ?_;simp (disch:=omega) only[go_sem]
 repeat' first
  |((first|refine cA (c7 _) ?_ ?_|refine cG (fun e=>c2 _) ?_ ?_);exact flk;simp (disch:=omega) only[go_sem])
  |(apply qb;exact rvk;simp only[go_sem];exact qi)
theorem quP(a:Cq)(o:Dc)(h:List AObj)(hp:kQ SG h)(hg:zK h frmN frmC)(hb:CqB a)(hd0:a.d≠ []):
  ACalls Tryz.prog 7 [.agg [.str a.x.sec,strs a.x.sig,qm a.x.tok,qw a.x.col,zS a.l,kl a.d,.int .i64 a.lead],.agg (dcC o)] h (.bool true) h:=by
 have c1:=fun l'=>(quX a (h++l') hb (hp.app l') hg.app).le (args:= [.agg [.str a.x.sec,strs a.x.sig,qm a.x.tok,qw a.x.col,zS a.l,kl a.d,.int .i64 a.lead]]) ⟨VLe.agg ⟨qi,qi,qi,qi,qi,qi,qi,trivial⟩,trivial⟩ (qi)
 have c2:=fun l'=>qtg (h++l') (hp.app l') hg.app
 obtain⟨B,hB⟩: ∃B,B=mdB a:=⟨_,rfl⟩
 obtain⟨R,hR⟩: ∃R,R=mdR a:=⟨_,rfl⟩
 simp only[←hB,←hR]at c1;cases B with
 |false=>
  refine acO qjU ?_;simp (disch:=omega) only[c7w,dcC,go_sem]
  repeat' first
   |(refine qj ( .bool false) ?_;simp (disch:=omega) only[go_sem])
   |((first|refine cA (c1 _) ?_ ?_|refine cA (c2 _) ?_ ?_);exact flk;simp (disch:=omega) only[go_sem])
   |(apply qb;exact rvk;simp only[go_sem];exact qi)
   |with_reducible apply aiA
  all_goals try exact clz
 |true=>
 obtain⟨z,e0,E,hRe⟩:=quY hB.symm;rw[←hR]at hRe;have zx:=z.x;have zu:=z.l;have zd:=z.d;have zt:=z.t;obtain⟨s,hs⟩: ∃s:Nat,a.lead=s:=⟨a.lead.toNat,om⟩
 rw[hs,itn]at E hRe;rw[hs]at c1 ⊢;have hln:=E.ln;have hva:=E.va;have hlen:R.length=(rwA a.x a.l a.d s).length:=by rw[hRe,j9]
 have zg:qk [] (kl [o])=qk [] (kl [o]):=rfl;have c3: ∀H j v cs,qr j H=some (.mem v 43 (dcC o++cs))→ACalls Tryz.prog 23 [.osl j v 4 0 1] H (.bool (qiR [o])) H:=fun H j v cs hj=>by
  refine ACalls.borrow ((qqn [o] [] (by simp)).le ⟨?_,trivial⟩ (qi)) rfl;simp only[rei_osl,if_true,go_sem];rw[hj,slOf_mem,ipo ⟨rfl,by simp[dcC]⟩];refine VLe.sl_eq rfl (fun i hi=> ?_);obtain rfl:i=0:=by omega
  rfl
 unfold dcC at c3;cases hgo:qiR [o]with
 |true=>
  simp only[hgo]at c3;refine acO qjU ?_;simp (disch:=omega) only[c7w,dcC,go_sem]
  repeat' first
   |(refine cA (c1 _) flk ?_;simp (disch:=omega) only[go_sem])
   |with_reducible apply aiA
  all_goals try exact clz
  refine cG (fun _=>c3 _ _ _ (List.drop 4 (qY [.int .i64 0,.str [],.int .i64 0,.str []] 1)) ?jj0) (fun _=>by exact flk) ?_
  case jj0=>simp only[go_sem]
  simp (disch:=omega) only[go_sem]
  repeat' first
   |(refine cA (c2 _) flk ?_;simp (disch:=omega) only[go_sem])
   |(apply qb;exact rvk;simp only[go_sem];exact qi)
 |false=>
 simp only[hgo]at c3;obtain⟨_,_,g3⟩:=qeo hgo;have g4:=g3 o (by simp);have c4:=fun l'=>qDO a.x a.l o (h++l') zx zu (hp.app l') hg.app om
 have hu:qj0 a.x a.l o=qay a.x a.l o:=by unfold qj0;rw[ine (by simp[hva])]
 rw[hu]at c4;unfold coC dcC at c4
 by_cases e1:qay a.x a.l o=0
 case neg=>
  have k1:(qay a.x a.l o=0)=False:=eqf e1;obtain⟨Y,hY⟩: ∃Y,Y=qay a.x a.l o:=⟨_,rfl⟩
  simp only[←hY]at c4 k1;refine acO qjU ?_;simp (disch:=omega) only[c7w,dcC,go_sem]
  repeat' first
   |(refine cA (c1 _) flk ?_;simp (disch:=omega) only[go_sem])
   |with_reducible apply aiA
  all_goals try exact clz
  refine cG (fun _=>c3 _ _ _ (List.drop 4 (qY [.int .i64 0,.str [],.int .i64 0,.str []] 1)) ?jj1) (fun _=>by exact flk) ?_
  case jj1=>simp only[go_sem]
  simp (disch:=omega) only[go_sem]
  repeat' first
   |((first|refine cA (c4 _) ?_ ?_|refine cA (c2 _) ?_ ?_);exact flk;simp (disch:=omega) only[k1,go_sem])
   |(apply qb;exact rvk;simp only[go_sem];exact qi)
   |with_reducible apply aiA
  all_goals try exact clz
 have hun:qrY a.x a.l o=km a.x a.l o:=by unfold qrY;rw[ipo (hu.trans e1)]
 rw[hun]at c4;simp only[e1]at c4;have hap:=qlJ E e1 om;have hoth:=fun E'=>qlK E E' e1
 rw[←hRe]at hoth;have ht2: ∀y∈a.d++ [o],y.txt.length≤1000:=fun y hy=>by
  rcases List.mem_append.1 hy with hy|hy
  ·have:=zt y hy;omega
  ·rw[List.mem_singleton]at hy;subst hy;omega
 have hlim:vaE a.x a.l=0→(rwA a.x a.l (a.d++ [o]) (s:Int).toNat).length≤1000000000:=fun g=>qdm (by have:=z.cl;omega) ht2 g
 have eA0:=fun l'=>que a.x a.l (a.d++ [o]) s (h++l') zx zu (hp.app l') hg.app (by simp;omega) ht2 hlim
 obtain⟨k,hk⟩: ∃k,k=km a.x a.l o:=⟨_,rfl⟩
 obtain⟨E2,hE2⟩: ∃E2,E2=esE a.x a.l (a.d++ [o]) s:=⟨_,rfl⟩
 obtain⟨R2,hR2⟩: ∃R2,R2=esR a.x a.l (a.d++ [o]) s:=⟨_,rfl⟩
 simp only[←hk]at c4 hoth;rw[←hE2]at hap;simp only[←hE2,←hR2]at eA0;have hR2l:R2.length≤1024:=by rw[hR2];exact qgr
 have eE0: ∀L cs,qr (h.length+6) (h++L)=some (.mem 2 43 cs)→cs=qa7 (a.d++ [o])→ACalls Tryz.prog 25 [.agg (coC a.x),zS a.l,.osl (h.length+6) 2 4 0 (a.d.length+1),.int .i64 (s:Int)] (h++L) (.tup [kX R2,.int .i64 E2]) (qn (h.length+6) (h++L) (.emp (2+1))):=fun L cs hL hcs=>by
  have e:qn (h.length+6) (h++L) (.emp (2+1))=h++qn 6 L (.emp (2+1)):=setO_app;have hln2:(a.d++ [o]).length=(a.d.length+1):=by simp
  have key:=qCN (x:=a.x) (l:=a.l) (d:=a.d++ [o]) (s:=(s:Int)) (r:= .tup [kX R2,.int .i64 E2]) hL (fun i hi=>by rw[hcs];exact qei hi) (by rw[hcs,qaS];exact nlr _) (by rw[e];exact eA0 _);rw[hln2]at key;exact key
 unfold coC at eE0;have eTk:List.take (a.d.length*4) (qa7 a.d)=qa7 a.d:=ltl (by rw[qaS];omega);have eDl:=qaS a.d;have hcs:qa7 a.d++ [.int .i64 o.kind,.str o.sig,.int .i64 o.tok,.str o.txt]=qa7 (a.d++ [o]):=by rw[qeh,qej];rfl
 have gt0:([h.length,h.length+1]:List Nat).contains h.length=true:=by simp
 have gt1:([h.length,h.length+1]:List Nat).contains (h.length+1)=true:=by simp
 have gt2:([h.length,h.length+1]:List Nat).contains (h.length+2)=false:=by simp
 have gt3:([h.length,h.length+1]:List Nat).contains (h.length+3)=false:=by simp
 refine acO qjU ?_;simp (disch:=omega) only[c7w,dcC,go_sem]
 repeat' first
  |(refine cA (c1 _) flk ?_;simp (disch:=omega) only[go_sem])
  |with_reducible apply aiA
 all_goals try exact clz
 refine cG (fun _=>c3 _ _ _ (List.drop 4 (qY [.int .i64 0,.str [],.int .i64 0,.str []] 1)) ?jj2) (fun _=>by exact flk) ?_
 case jj2=>simp only[go_sem]
 simp (disch:=omega) only[go_sem]
 repeat' first
  |(refine cA (c4 _) flk ?_;simp (disch:=omega) only[go_sem])
  |with_reducible apply aiA
 all_goals try exact clz
 refine⟨_,_,Wk.freeze [h.length,h.length+1] ?w1,?_⟩
 case w1=>simp only[kK,go_sem]
 simp (disch:=omega) only[qbx,gt0,gt1,gt2,gt3,Bool.false_eq_true,go_sem];refine jB ?T ?H ?h1 ?h2
 case h1=>
  simp (disch:=omega) only[go_sem]
  repeat' first
   |(with_reducible apply aiA)
   |(refine qx (qCx a.d _ (h.length+6) (by simp only[go_sem]) hd0 om) (by exact flk) ?_;simp (disch:=omega) only[eTk,eDl,go_sem])
   |(refine qx (eE0 _ (qa7 a.d++ [.int .i64 o.kind,.str o.sig,.int .i64 o.tok,.str o.txt]) (by simp only[go_sem]) hcs) (by exact flk) ?_;simp (disch:=omega) only[go_sem])
  all_goals first
   |omega
   |rfl
   |(rw[bne_iff_ne];omega)
   |skip
 case h2=>
 rcases hap with e4|e4
 case inr=>
  have k1:(E2=0)=False:=eqf om;have k2:(E2=4)=True:=eqt e4;simp (disch:=omega) only[go_sem]
  repeat' first
   |(refine cG (fun e=>c2 _) flk ?_;simp (disch:=omega) only[k1,k2,go_sem])
   |(apply qb;exact rvk;simp only[go_sem];exact qi)
   |with_reducible first|intro _|apply aiA
  all_goals try exact clz
 have k1:(E2=0)=True:=eqt e4;obtain⟨_,E3⟩:=qfq (hE2.symm.trans e4);rw[itn]at E3;have hR3:R2=bsW (rwA a.x a.l (a.d++ [o]) s):=by rw[hR2];unfold esR;rw[ipo (hE2.symm.trans e4),itn]
 have hw:=hoth E3;rw[←hR3]at hw;have hwl:=qih k R R.length;have c5:=fun L hk=>qwJ R k (h.length+3) 1 (h++L) hk om
 have c6:=fun L hk=>qwJ R2 k (h.length+3) 1 (h++L) hk om
 rw[←hw]at c6;have c7:=fun h=>qDG (woG k R R.length) h om
 simp (disch:=omega) only[go_sem]
 repeat' first
  |with_reducible first|intro _|apply aiA
 all_goals try exact clz
 refine qy (c5 _ (by simp only[go_sem])) ?_;simp (disch:=omega) only[go_sem];refine qy (c6 _ (by simp only[go_sem])) ?_;simp (disch:=omega) only[go_sem]
 repeat' first
  |((first|refine cA (c7 _) ?_ ?_|refine cG (fun e=>c2 _) ?_ ?_);exact flk;simp (disch:=omega) only[go_sem])
  |(apply qb;exact rvk;simp only[go_sem];exact qi)
theorem qAf(a:Cq)(o:Dc)(h:List AObj)(hp:kQ SG h)(hg:zK h frmN frmC)(hb:CqB a):ACalls Tryz.prog 7 [.agg (cqC a),.agg (dcC o)] h (.bool true) h:=by
 by_cases hd:a.d= []
 ·have e:kl a.d= .sl 0 fun i=>dcC (([]:List Dc).getD i default):=by rw[hd];rfl
  unfold cqC;rw[e];exact ACalls.sl0g (pre:= [.str a.x.sec,strs a.x.sig,qm a.x.tok,qw a.x.col,zS a.l]) (quR a o h hp hg hb hd) (quQ a o h hp hg hb hd)
 ·exact quP a o h hp hg hb hd
end RC
end
section
open Go Go.Proofs AF HY Go.ChangeShapes Go.RowKit
namespace LN
theorem qDd : Tryz.prog.globalNamed "internal/strconv.uint64pow10" = some 4 := by kernel_rfl
theorem qDf : Tryz.prog.globalNamed "strconv.ErrSyntax" = some 5 := by kernel_rfl
theorem qDe : Tryz.prog.globalNamed "strconv.ErrRange" = some 6 := by kernel_rfl
theorem qEz : Tryz.prog.globalNamed "apograph/transcript.forms" = some 3 := by kernel_rfl
theorem qq4{w w':World}(h:qs3 w)(e:w'.heap[4]? =w.heap[4]?):qs3 w':=by
 unfold qs3 Lib.TabIs at*;rw[qeV qDd e];exact h
theorem qgS : "*" ++ "errors.errorString" = "*errors.errorString" := by decide
theorem qsT (u : TypeId) (h : Tryz.prog.typeName? 3 u = some "*errors.errorString") : u = 329 :=
 typeName_ptr_named (nm := "errors.errorString") (by rw [qgS]; kernel_rfl) (by kernel_rfl) (by decide) u (by rw [qgS]; exact h)
structure Fr where
 s:List UInt8
 a:Bool
 b:Bool
 c:Bool
def Fr.av(r:Fr):List AV:= [.str r.s,.bool r.a,.bool r.b,.bool r.c]
def Fr.vl(r:Fr):List Value:= [.string ⟨r.s.toArray⟩,.bool r.a,.bool r.b,.bool r.c]
def Fr.da{H:Type}(r:Fr):DataW H:= .agg [.lit (.string r.s),.lit (.bool r.a),.lit (.bool r.b),.lit (.bool r.c)]
def frL:List Fr:= [⟨[],false,false,false⟩,⟨[],true,false,false⟩,⟨[108,98],false,false,false⟩,⟨[112,98],true,false,false⟩,⟨[115,101,99],true,false,false⟩,⟨[118],false,false,false⟩,
 ⟨[103,97,112],false,true,false⟩,⟨[117,110,99,108,101,97,114],false,false,true⟩,⟨[97,100,100],false,true,true⟩,⟨[100,101,108],false,true,true⟩,⟨[97,98],true,false,true⟩,⟨[110,97,109,101],true,false,true⟩]
theorem qzV:RC.frmC=frL.flatMap Fr.av:=rfl
theorem qzW:(YthjkfdakolejgaaGreatDoor.Rows.laid_apograph_transcript_forms:DataW Unit)= .agg (frL.map Fr.da):=rfl
theorem qCR{α β:Type}{f:α→List β}(hf: ∀a,(f a).length=4): ∀(l:List α) (i j:Nat),j<4→(l.flatMap f)[i*4+j]? =(l[i]?).bind fun a=>(f a)[j]? :=by
 intro l
 induction l with
 |nil=>intro i j _;simp
 |cons a l ih=>
  intro i j hj;rw[List.flatMap_cons];cases i with
  |zero=>
   rw[Nat.zero_mul,Nat.zero_add,List.getElem?_append_left (by rw[hf];exact hj)];rfl
  |succ i=>
   rw[List.getElem?_append_right (by rw[hf];omega),hf,show (i+1)*4+j-4=i*4+j by omega,ih i j hj];rfl
theorem qdK:Tryz.prog.cellsOf 300=4:=by kernel_rfl
theorem qgk:Tryz.prog.cellsOf 301=48:=by kernel_rfl
theorem qpC:Tryz.prog.cellsOf 9=1:=by kernel_rfl
theorem qpA:Tryz.prog.cellsOf 4=1:=by kernel_rfl
theorem qAN{H:Type}{enc:TypeId×Value→H}{w:World}{base fuel:Nat}{spare:Nat→Bool}{held:Bool}{cs:List Value}{x:DataW H×List MemPlace}{r:Fr}
  (h:DataW.trod enc Tryz.prog w base spare held fuel 300 cs=some x) (hx:x.1=r.da):cs=r.vl:=by
 obtain⟨xs,n,_,hxe,hl,hxl,hf⟩:=DataW.trod_struct Tryz.underlying300 h;rw[qdK]at hl
 match cs,hl with
 | [v0,v1,v2,v3],_=>
 match xs,hxl with
 | [y0,y1,y2,y3],_=>
  have h0:DataW.trod enc Tryz.prog w base spare held n 9 (([v0,v1,v2,v3].drop 0).take (Tryz.prog.cellsOf 9))= [y0,y1,y2,y3][0]? :=hf 0 _ rfl;have h1:DataW.trod enc Tryz.prog w base spare held n 4 (([v0,v1,v2,v3].drop 1).take (Tryz.prog.cellsOf 4))= [y0,y1,y2,y3][1]? :=hf 1 _ rfl;have h2:DataW.trod enc Tryz.prog w base spare held n 4 (([v0,v1,v2,v3].drop 2).take (Tryz.prog.cellsOf 4))= [y0,y1,y2,y3][2]? :=hf 2 _ rfl;have h3:DataW.trod enc Tryz.prog w base spare held n 4 (([v0,v1,v2,v3].drop 3).take (Tryz.prog.cellsOf 4))= [y0,y1,y2,y3][3]? :=hf 3 _ rfl;rw[qpC]at h0;rw[qpA]at h1 h2 h3;obtain⟨s,e0,x0,_⟩:=DataW.trod_string Tryz.underlying9 h0;obtain⟨b1,e1,x1⟩:=DataW.trod_bool Tryz.underlying4 h1;obtain⟨b2,e2,x2⟩:=DataW.trod_bool Tryz.underlying4 h2;obtain⟨b3,e3,x3⟩:=DataW.trod_bool Tryz.underlying4 h3;have hy:([y0,y1,y2,y3]:List (DataW H×List MemPlace)).map (·.1)= [.lit (.string r.s),.lit (.bool r.a),.lit (.bool r.b),.lit (.bool r.c)]:=by
   have hx:=hxe▸hx;exact DataW.agg.inj hx
  rw[x0,x1,x2,x3]at hy;simp at hy e0 e1 e2 e3;obtain⟨g0,g1,g2,g3⟩:=hy;unfold Fr.vl;subst e0 e1 e2 e3;rw[←g0,g1,g2,g3]
theorem qDc {W : World} {rest : List (String × DataW Unit)} (h : laidMet Tryz.prog (("apograph/transcript.forms", YthjkfdakolejgaaGreatDoor.Rows.laid_apograph_transcript_forms) :: rest) W) : qij 3 RC.frmC W := by
 obtain⟨ps,⟨g',t',cs,fuel,p,q,hg',ht',hvar,hd,_,_⟩,_⟩:=h;obtain rfl:=Option.some.inj (qEz.symm.trans hg');obtain rfl:301=t':=Option.some.inj ((show (Tryz.prog.globals[3]?).map (·.type)=some 301 by kernel_rfl).symm.trans ht');obtain⟨xs,m,_,hxe,hl,hxl,hr⟩:=DataW.trod_array Tryz.underlying301 hd;rw[qgk]at hl;have hxm:xs.map (·.1)=frL.map Fr.da:=by
  have:=congrArg Prod.fst hxe
  rw[qzW]at this;exact (DataW.agg.inj this).symm
 have rows: ∀i r,frL[i]? =some r→(cs.toList.drop (i*4)).take 4=r.vl:=fun i r hi=>by
  have hil:i<12:=(lgs.1 hi).1;have e1:(xs.map (·.1))[i]? =some r.da:=by rw[hxm,List.getElem?_map,hi];rfl
  rw[List.getElem?_map,Option.map_eq_some_iff]at e1;obtain⟨y,hy,hy1⟩:=e1;have h1:=hr i hil;rw[hy,qdK]at h1;exact qAN h1 hy1
 have hv: ∃T fz,W.heap[3]? =some (.cells cs T fz):=by
  unfold World.var? at hvar;rw[qEz]at hvar;simp only[Option.bind_some]at hvar;split at hvar
  ·rename_i c T fz hc;cases hvar;exact⟨_,_,hc⟩
  ·cases hvar
 obtain⟨T,fz,hc⟩:=hv;refine⟨cs,T,fz,hc,?_,?_⟩
 ·have:cs.size=48:=by simpa using hl
  rw[this];exact Nat.le_of_eq rfl
 intro i c x hi hx;have hij:i=i/4*4+i%4:=by omega
 rw[qzV,hij,qCR (fun _=>rfl) frL _ _ (Nat.mod_lt _ (by decide)),Option.bind_eq_some_iff]at hi;obtain⟨r,hr1,hr2⟩:=hi;have h2:=rows _ _ hr1;have h3:r.vl[i%4]? =some x:=by
  rw[←h2,List.getElem?_take,ipo (Nat.mod_lt _ (by decide)),List.getElem?_drop,←hij];simpa using hx
 have h4:i%4<4:=Nat.mod_lt _ (by decide);obtain⟨j,hj⟩: ∃j,j=i%4:=⟨_,rfl⟩
 rw[←hj]at hr2 h3 h4
 match j,h4 with
 |0,_=>cases hr2;cases h3;exact⟨rfl,fun _ _=> .str⟩
 |1,_=>cases hr2;cases h3;exact⟨rfl,fun _ _=> .bool⟩
 |2,_=>cases hr2;cases h3;exact⟨rfl,fun _ _=> .bool⟩
 |3,_=>cases hr2;cases h3;exact⟨rfl,fun _ _=> .bool⟩
theorem quu{w w':World}(h:qij 3 RC.frmC w)(e:w'.heap[3]? =w.heap[3]?):qij 3 RC.frmC w':=by
 obtain⟨arr,T,fz,h1,h2⟩:=h;exact⟨arr,T,fz,e.trans h1,h2⟩
def qcD:List Nat:= [3,4,5,6]
def qAZ(w:World):Prop:=RC.SG w∧qij 3 RC.frmC w
theorem qA0{W:World}(h:laidMet Tryz.prog YthjkfdakolejgaaGreatDoor.Rows.decisionSpacesRow.laid W):qs3 W∧qBU W∧qij 3 RC.frmC W:=by
 have h2:=laidMet.tail (laidMet.tail h);have h3:=laidMet.tail h2;have h4:=laidMet.tail h3;have h5:=laidMet.tail h4;obtain⟨a,s,e1,_⟩:=laid_sentinel (g:=6) (ti:=158) (tp:=329) (te:=331) (ts:=9) h3 qDe (by kernel_rfl) Tryz.underlying158 qsT Tryz.underlying329 Tryz.underlying331 rfl rfl Tryz.underlying9 (by kernel_rfl) (by kernel_rfl);obtain⟨b,t,e2,_⟩:=laid_sentinel (g:=5) (ti:=158) (tp:=329) (te:=331) (ts:=9) h4 qDf (by kernel_rfl) Tryz.underlying158 qsT Tryz.underlying329 Tryz.underlying331 rfl rfl Tryz.underlying9 (by kernel_rfl) (by kernel_rfl);exact⟨Lib.tabIs_of_head (t:=308) (e:=213) (n:=20) qDd (by kernel_rfl) Tryz.underlying308 Tryz.underlying213 (by kernel_rfl) (by kernel_rfl) h2,⟨⟨_,_,e2⟩,_,_,e1⟩,qDc h5⟩
theorem qru{W:World}(h:laidMet Tryz.prog YthjkfdakolejgaaGreatDoor.Rows.decisionSpacesRow.laid W): ∀b,b∈qcD→ ∃arr T fz,W.heap[b]? =some (.cells arr T fz):=by
 intro b hb;obtain⟨h1,⟨⟨_,_,h2⟩,_,_,h3⟩,arr,T,fz,h4,_⟩:=qA0 h;have e:b=3∨b=4∨b=5∨b=6:=by simpa[qcD] using hb
 rcases e with rfl|rfl|rfl|rfl
 ·exact⟨_,_,_,h4⟩
 ·exact qdq qDd h1
 ·exact qdq qDf h2
 ·exact qdq qDe h3
theorem qvT{W:World}(h:laidMet Tryz.prog YthjkfdakolejgaaGreatDoor.Rows.decisionSpacesRow.laid W): ∀w':World,(∀b,b∈qcD→w'.heap[b]? =W.heap[b]?)→qAZ w':=by
 intro w' hs;obtain⟨h1,⟨⟨t1,p1,h2⟩,t2,p2,h3⟩,h4⟩:=qA0 h;refine⟨⟨qq4 h1 (hs 4 (by simp[qcD])),⟨t1,p1,?_⟩,t2,p2,?_⟩,quu h4 (hs 3 (by simp[qcD]))⟩
 ·rw[qeV qDf (hs 5 (by simp[qcD]))];exact h2
 ·rw[qeV qDe (hs 6 (by simp[qcD]))];exact h3
theorem qvS:kQ RC.SG [.pin qcD qAZ]:=⟨0,_,_,rfl,fun _ h=>h.1⟩
theorem qvR:zK [.pin qcD qAZ] RC.frmN RC.frmC:=⟨0,_,_,rfl,by simp[qcD],fun _ h=>h.2⟩
end LN
end
