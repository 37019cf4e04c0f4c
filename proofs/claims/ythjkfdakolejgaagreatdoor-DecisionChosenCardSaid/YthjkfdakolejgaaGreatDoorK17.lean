import Derived.Test.YthjkfdakolejgaaGreatDoorK16
import Derived.Test.YthjkfdakolejgaaGreatDoorK14
import Derived.Test.YthjkfdakolejgaaGreatDoorK12
import Derived.Test.YthjkfdakolejgaaGreatDoorK3
import Derived.Test.YthjkfdakolejgaaGreatDoorK5
import Derived.Test.YthjkfdakolejgaaGreatDoorK8
import Derived.Test.YthjkfdakolejgaaGreatDoorProg
import Derived.Test.YthjkfdakolejgaaGreatDoorK15
import Derived.Test.YthjkfdakolejgaaGreatDoorK9
import Derived.Test.YthjkfdakolejgaaGreatDoorRows
import Derived.LaidLaws
import Derived.OpenShut
set_option linter.all false
set_option linter.unusedSimpArgs false
set_option linter.unusedVariables false
set_option linter.unusedSectionVars false
set_option maxHeartbeats 128000000
set_option maxRecDepth 100000
section
open Go Go.Proofs AF HY LN
namespace RC
theorem qCu(h:List AObj):ACalls Tryz.prog 81 [.nl] h .nl h:=by
 refine acO qt6 ?_;simp (disch:=omega) only[qBU,go_sem]
 repeat' first
  |(apply qb;exact rvk;simp only[go_sem];exact qi)
theorem qFA(a:Int)(h:List AObj):ACalls Tryz.prog 78 [qF [a],.int .i64 0] h (qF []) h:=by
 have s1:=fun h=>qhU h [a]
 have c1:=fun h=>qEv 0 h om
 have z1: ∀g,valL g .len [qF [a]]= .int .i64 1:=fun _=>rfl
 have z2: ∀g,okL g .len [qF [a]]=True:=fun _=>eqt trivial
 have e5:IntKind.u64.wrap 1=1:=by decide
 have e6:IntKind.u64.wrap 0=0:=by decide
 rw[show ((0:Nat):Int)=0 from rfl]at c1;refine acO qzT ?_;simp (disch:=omega) only[qCj,z1,z2,e5,e6,go_sem]
 repeat' first
  |(refine cA (c1 _) flk ?_;simp (disch:=omega) only[s1,go_sem])
  |with_reducible first|intro _|apply aiA
 all_goals try exact clz
 ·rfl
 refine qr (T:=fun _:Unit=>qZ 48 [(7,.osl (h.length+1) 1 1 0 0),(8,.int .i64 0)]) (H:=fun _=>h++ [.emp 1,.mem 1 3 []])
  (inv:=fun _=>True) (m:=fun _=>0) () trivial (Wk.temps ?_) ?_
 ·(simp only[go_sem,qh,qc,qa,qg];try (repeat' first|(with_reducible apply aiA)|(apply qf;omega)|(apply qd;rfl)|exact qi))
 rintro⟨⟩-K hK;have q1:((0:Int)<0)=False:=eqf om;simp (disch:=omega) only[go_sem]
 repeat' first
  |(apply qb;exact rvk;simp only[go_sem])
  |with_reducible first|intro _|apply aiA
 all_goals try exact clz
 exact VLe.sl_eq rfl (fun i hi=>absurd hi (nnz _))
theorem qAX{hh:List AObj}{j v:Nat}(a:Int)(cs:List AV)(hj:qu j hh=some (.mem v 3 (.int .i64 a::cs))):
  ACalls Tryz.prog 78 [.osl j v 1 0 1,.int .i64 0] hh (qF []) (qp j hh (.emp (v+1))):=by
 have hs:qI hh j=true:=by unfold qI;rw[hj]
 have e1:qdu [j] hh=qp j hh (.emp (v+1)):=by show qp j hh (.emp (qn (qu j hh)+1))=_;rw[hj];rfl
 refine ACalls.frzd [j] (by show (qI hh j&&true)=true;rw[hs];rfl) ?_;rw[e1];refine (qFA a _).le ⟨?_,qi,trivial⟩ (qi);have hc:=qO hj;have e: [j].contains j=true:=by simp
 simp only[go_sem,e,if_true,hc];rw[hj,slOf_mem,ipo ⟨rfl,by simp⟩];refine VLe.sl_eq rfl (fun i hi=> ?_);obtain rfl:i=0:=by omega
 rfl
theorem qCK(x:Co)(d:List Dc)(s:Int)(h:List AObj)(hz:qcT x)(hp:kN SG h)(hg:zR h frmN frmC)(hd:d.length≤1000000)(ht: ∀o∈d,o.txt.length≤1000)(hN0:vaE x []=0→(rwA x [] d s.toNat).length≤1000000000):
  ACalls Tryz.prog 25 [.agg (coC x),.nl,kO d,.int .i64 s] h (.tup [qav (esR x [] d s),.int .i64 (esE x [] d s)]) h:=by
 have hu:qf7 []:=⟨by simp,fun i=>by simp;exact nzl _,fun i j=>by simp;exact nzl _,fun i j=>by simp;exact nzl _⟩
 have c1:=fun l'=>(qpm x [] (h++l') hz hu (hp.app l')).le (args:= [.agg (coC x),.nl]) ⟨qi,ze,trivial⟩ (qi)
 have zu: ∀g l,valL g .len [zO l]= .int .i64 l.length:=fun _ _=>rfl
 have zv: ∀g l,okL g .len [zO l]=True:=fun _ _=>eqt trivial
 have zu1: ∀g l,valL g .len [strs l]= .int .i64 l.length:=fun _ _=>rfl
 have zv1: ∀g l,okL g .len [strs l]=True:=fun _ _=>eqt trivial
 have hE:esE x [] d s=(if vaE x []≠0 then vaE x [] else if s<0∨(x.sig.length:Int)≤s then 2 else if qbZ x [] d≠0 then qbZ x [] d else if 1024<(rwA x [] d s.toNat).length then 4 else 0):=rfl;unfold esR
 by_cases g:vaE x []=0
 case neg=>
  have k1:(vaE x []=0)=False:=eqf g;rw[ipo g]at hE;rw[hE,ine g];unfold coC at c1;refine acO qa6 ?_;simp (disch:=omega) only[qf9,coC,go_sem]
  repeat' first
   |(refine cA (c1 _) flk ?_;simp (disch:=omega) only[k1,go_sem])
   |(apply qb;exact rvk;simp only[go_sem])
  exact VLe.tup ⟨ze,qi,trivial⟩
 rw[ine (by simpa using g)]at hE;have hN:=hN0 g;simp only[g]at c1;obtain⟨hca,hus,hcv⟩:=qf2 g;have ho:=qcc hca
 by_cases g2:s<0
 ·have k2:(s<0)=True:=eqt g2;rw[ipo (.inl g2)]at hE;rw[hE,ine (by decide)];unfold coC at c1;refine acO qa6 ?_;simp (disch:=omega) only[qf9,coC,go_sem]
  repeat' first
   |(refine cA (c1 _) flk ?_;simp (disch:=omega) only[k2,go_sem])
   |(apply qb;exact rvk;simp only[go_sem])
  exact VLe.tup ⟨ze,qi,trivial⟩
 have k2:(s<0)=False:=eqf g2
 by_cases g3:(x.sig.length:Int)≤s
 ·have k3:((x.sig.length:Int)≤s)=True:=eqt g3;rw[ipo (.inr g3)]at hE;rw[hE,ine (by decide)];unfold coC at c1;refine acO qa6 ?_;simp (disch:=omega) only[qf9,coC,go_sem]
  repeat' first
   |(refine cA (c1 _) flk ?_;simp (disch:=omega) only[k2,k3,zu1,zv1,go_sem])
   |(apply qb;exact rvk;simp only[go_sem])
  exact VLe.tup ⟨ze,qi,trivial⟩
 have k3:((x.sig.length:Int)≤s)=False:=eqf g3;rw[ine (fun e=>e.elim g2 g3)]at hE;have c2:=fun l'=>(qDw x [] d (h++l') hz hu (hp.app l') hg.app hca hd ht).le (args:= [.agg (coC x),.nl,kO d]) ⟨qi,ze,qi,trivial⟩ (qi)
 unfold qAF at c2
 by_cases g4:qbZ x [] d=0
 case neg=>
  have k4:(qbZ x [] d=0)=False:=eqf g4;simp only[ine g4]at c2;rw[ipo g4]at hE;rw[hE,ine g4];unfold coC at c1 c2;refine acO qa6 ?_;simp (disch:=omega) only[qf9,coC,go_sem]
  repeat' first
   |((first|refine cA (c1 _) ?_ ?_|refine cA (c2 _) ?_ ?_);exact flk;simp (disch:=omega) only[k2,k3,k4,zu1,zv1,go_sem])
   |(apply qb;exact rvk;simp only[go_sem])
   |with_reducible apply aiA
  all_goals try exact clz
  exact VLe.tup ⟨ze,qi,trivial⟩
 rw[ine (by simpa using g4)]at hE;simp only[g4,if_true]at c2;rw[hE];unfold coC at c1 c2;refine acO qa6 ?_;simp (disch:=omega) only[qf9,coC,go_sem]
 repeat' first
  |((first|refine cA (c1 _) ?_ ?_|refine cA (c2 _) ?_ ?_);exact flk;simp (disch:=omega) only[k2,k3,zu1,zv1,go_sem])
  |with_reducible apply aiA
 all_goals try exact clz
 have hd0:d= []:=by
  cases d with
  |nil=>rfl
  |cons o r=>
   exfalso
   have:=g4
   unfold qbZ at this;split at this
   ·cases this
   ·have h0:=jQ.1 this 0 (by simp);have h1:=(qa8 h0).2.2.2.2.1;have h2:kJ x [] ((o::r).getD 0 default)= -1:=rfl;omega
 subst hd0;have zi: ∀g l,valL g .len [qF l]= .int .i64 l.length:=fun _ _=>rfl
 have zj: ∀g l,okL g .len [qF l]=True:=fun _ _=>eqt trivial
 have ePL:(plG x [] [] ([]:List Dc).length).length=0:=rfl;refine qz (qAX (j:=h.length+2) (-1) (List.drop 1 (zk [.int .i64 0] 1)) ?j1) (by exact flk) ?_
 case j1=>simp only[go_sem]
 simp (disch:=omega) only[zi,zj,go_sem];refine qr (T:=fun _:Unit=>qZ 154 [(1,.nl),(3,.int .i64 s),(4,.op h.length 1 0),(13,qF []),(56,.int .i64 0),(57,.int .i64 0)])
  (H:=fun _=>h++ [.mem 1 26 [.str x.sec,strs x.sig,qm x.tok,qx x.col],.emp 1,.emp 2,.emp 0,.emp 0,.emp 0,.emp 0,.emp 0,.emp 0,.emp 0,.emp 0,.emp 0,.emp 0,.emp 0,.emp 0,.emp 0])
  (inv:=fun _=>True) (m:=fun _=>0) () trivial (Wk.temps ?_) ?_
 ·(simp only[go_sem,qh,qc,qa,qg];try (repeat' first|(with_reducible apply aiA)|(apply qf;omega)|(apply qd;rfl)|exact qi))
 rintro⟨⟩-K hK;have q1:((0:Int)<0)=False:=eqf om;simp (disch:=omega) only[q1,go_sem];refine⟨_,_,Wk.ownNil (j:=h.length+3) (i:=0) (k:=h.length+15) (v:=1) (ty:=29) (cs:= [.nl]) (ve:=0) (sz:=7) ?m1 rfl ?m2,?_⟩
 case m1=>simp only[go_sem]
 case m2=>simp only[go_sem]
 simp (disch:=omega) only[List.set_cons_zero,go_sem];have bne5:(h.length+6 !=h.length+5)=true:=by simp
 have zc: ∀g l,valL g .len [qx l]= .int .i64 l.length:=fun _ _=>rfl
 have zd: ∀g l,okL g .len [qx l]=True:=fun _ _=>eqt trivial
 refine ku ?T ?H ?h1 ?h2
 case h1=>
  simp (disch:=omega) only[zc,zd,go_sem]
  repeat' first
   |(with_reducible apply aiA)
   |(refine qz (qCu _) (by exact flk) ?_;simp (disch:=omega) only[zc,zd,go_sem])
  all_goals first
   |omega
   |rfl
   |exact bne5
 case h2=>
 simp (disch:=omega) only[go_sem];obtain⟨S,hS⟩: ∃S:Nat,s=S:=⟨s.toNat,om⟩
 subst hS;rw[itn]at hN ⊢;have hSl:S<x.sig.length:=by omega
 obtain⟨MC,hMC⟩: ∃MC,MC= [AV.int .i64 x.col.length,.int .i64 x.col.length,.nl]:=⟨_,rfl⟩
 rw[←hMC];obtain⟨O5,hO5⟩: ∃O5,O5=AObj.mem 1 64 (AV.int .i64 x.col.length:: .int .i64 x.col.length:: .nl::List.drop 3 (zk [.int .i64 0,.int .i64 0,.nl] 1)):=⟨_,rfl⟩
 rw[←hO5];obtain⟨X0,hX0⟩: ∃X0,X0=AObj.mem 1 26 [.str x.sec,strs x.sig,qm x.tok,qx x.col]:=⟨_,rfl⟩
 have lX0: ∀n,lowO n X0:=by
  intro n;rw[hX0];intro c hc;simp at hc;rcases hc with rfl|rfl|rfl|rfl<;>rfl
 refine qr (T:=fun i:EsS=>qZ 154 [(1,.nl),(3,.int .i64 (S:Int)),(4,.op h.length 1 0),(13,qF []),(16,.op (h.length+3) 1 0),(17,.op (h.length+4) 1 0),(18,.int .i64 (nxT x [] i.k:Int)),(78,.osl (h.length+6) 1 3 0 1),(79,.int .i64 1),(80,.int .i64 i.k)])
  (H:=fun i=>h++ [.mem 1 26 [.str x.sec,strs x.sig,qm x.tok,qx x.col],.emp 1,.emp 2,.mem 1 29 [.osl (h.length+15) i.vb 7 0 (rwK x [] [] S i.k).length],.mem 1 117 [.fn (.func 79) [] [.op (h.length+3) 1 0]],O5,.mem 1 64 MC,i.O7,i.O8,i.O9,i.O10,i.O11,i.O12,.emp 0,.emp 0,zf i.vb 36 (jz (bsW (rwK x [] [] S i.k)))])
  (inv:=fun i=>i.k≤1∧ ∀O∈ [i.O7,i.O8,i.O9,i.O10,i.O11,i.O12],qI [O] 0=true∧ ∀n,lowO n O) (m:=fun i=>1-i.k) ⟨0,0,.emp 0,.emp 0,.emp 0,.emp 0,.emp 0,.emp 0⟩ ⟨nzl _,fun O hO=>by
   simp at hO;subst hO;exact⟨rfl,fun _=>trivial⟩⟩ (Wk.temps ?_) ?_
 ·(simp only[go_sem,qh,qc,qa,qg];try (repeat' first|(with_reducible apply aiA)|(apply qf;omega)|(apply qd;rfl)|exact qi))
  done
 rintro⟨k,vb,O7,O8,O9,O10,O11,O12⟩ ⟨i1,i2⟩ K hK;simp only at i1 i2 hK;obtain⟨s7,l7⟩:=i2 O7 (by simp);obtain⟨s8,l8⟩:=i2 O8 (by simp);obtain⟨s9,l9⟩:=i2 O9 (by simp);obtain⟨s10,l10⟩:=i2 O10 (by simp);obtain⟨s11,l11⟩:=i2 O11 (by simp);obtain⟨s12,l12⟩:=i2 O12 (by simp);have s7': ∀m,qI (O7::m) 0=true:=fun _=>s7
 have s8': ∀m,qI (O8::m) 0=true:=fun _=>s8
 by_cases hk:k≤0
 case neg=>
  have q1:((k:Int)<(1:Int))=False:=eqf om;have eR:rwK x [] [] S k=rwA x [] [] S:=by unfold rwK;rw[lnl,ine hk]
  rw[eR]
  by_cases g5:1024<(rwA x [] [] S).length
  ·have q5:((1024:Int)<(rwA x [] [] S).length)=True:=eqt om;simp only[ipo g5];simp (disch:=omega) only[q1,q5,go_sem]
   repeat' first
    |(apply qb;exact rvk;simp only[go_sem])
    |with_reducible apply aiA
   all_goals try exact clz
   exact VLe.tup ⟨ze,qi,trivial⟩
  ·have q5:((1024:Int)<(rwA x [] [] S).length)=False:=eqf om;simp only[ine g5];simp (disch:=omega) only[q1,q5,go_sem]
   repeat' first
    |(apply qb;exact rvk;simp only[go_sem])
    |with_reducible apply aiA
   all_goals try exact clz
   exact VLe.tup ⟨qeH (kV _).symm,qi,trivial⟩
 have q1:((k:Int)<(1:Int))=True:=eqt om;have q2:(0≤(k:Int))=True:=eqt om;have hk0:k=0:=by omega
 have hMl:MC.length=3:=by rw[hMC];rfl
 have q3:(k*3+3≤MC.length)=True:=eqt om;have eR:rwK x [] [] S k=rwL x [] [] S k:=by unfold rwK;rw[lnl,ipo hk]
 have eN:nxT x [] k=jx [] k:=by unfold nxT;rw[lnl,ipo hk]
 rw[eR,eN];obtain⟨f,hf⟩: ∃f,f=x.col.length:=⟨_,rfl⟩
 obtain⟨t',ht'⟩: ∃t',t'=x.col.length:=⟨_,rfl⟩
 obtain⟨RV,hRV⟩: ∃RV,RV=AV.nl:=⟨_,rfl⟩
 have eM:List.take 3 (List.drop (k*3) MC)= [.int .i64 (f:Int),.int .i64 (t':Int),RV]:=by rw[hk0,hMC,hf,ht',hRV];rfl
 have a5:jx [] k≤f:=by rw[hk0];exact nzl _
 have a6:f≤x.col.length:=by omega
 have lRV: ∀n,qV n RV=true:=fun n=>by rw[hRV];rfl
 have c3:=fun h=>qBd x (jx [] k) f S h
 have hit:=itS x S (jx [] k) f hz ho hSl a6 a5;have hpF:=qaG ho hSl (f:=jx [] k) (d:=f-jx [] k) om;obtain⟨ps,hps⟩: ∃ps,ps=spk x S (jx [] k) (f-jx [] k):=⟨_,rfl⟩
 have hxl:(spX x S (jx [] k) (f-jx [] k))=ps.map fun p=> [.agg (pcC p)]:=by unfold spX;rw[hps]
 rw[hxl]at hit;rw[←hps]at hpF;unfold coC at c3 hit;simp (disch:=omega) only[q1,q2,q3,eM,s7',s8',go_sem]
 repeat' first
  |(refine cA (c3 _) flk ?_;simp (disch:=omega) only[go_sem])
  |with_reducible apply aiA
 all_goals try exact clz
 obtain⟨L0,hL0⟩: ∃L0,L0=rwL x [] [] S k:=⟨_,rfl⟩
 have hLF: ∀r∈L0,PcF r.p:=by rw[hL0];exact qgz ho hus hSl (fun i hi=>absurd hi (by simp)) hk
 have hLn:(L0++rwM ps (-1) (-1)).length≤1000000000:=by
  refine Nat.le_trans ?_ hN;rw[hL0,hps,hf,hk0];exact nlr _
 rw[←hL0];obtain⟨P7,hP7⟩: ∃P7,P7=AObj.mem (qn (some O7)+1) 3 [.int .i64 (k:Int)]:=⟨_,rfl⟩
 obtain⟨P8,hP8⟩: ∃P8,P8=AObj.mem (qn (some O8)+1) 64 [.int .i64 (f:Int),.int .i64 (t':Int),RV]:=⟨_,rfl⟩
 have hP7l:qI [P7] 0=true∧ ∀n,lowO n P7:=by
  rw[hP7];refine⟨rfl,fun n c hc=> ?_⟩;rw[List.mem_singleton]at hc;subst hc;rfl
 have hP8l:qI [P8] 0=true∧ ∀n,lowO n P8:=by
  rw[hP8];refine⟨rfl,fun n c hc=> ?_⟩;simp only[List.mem_cons,List.not_mem_nil,or_false]at hc;rcases hc with rfl|rfl|rfl
  ·rfl
  ·rfl
  ·exact lRV n
 have cP7: ∀m,cellsOf (P7::m) 0 (qn (some O7)+1)=some [.int .i64 (k:Int)]:=fun m=>by rw[hP7];simp only[go_sem]
 rw[←hP7,←hP8];have lP: ∀L:List Rw,∀v n,lowO n (zf v 36 (jz (bsW L))):=fun L v n=>jt (qcS _ n)
 have hLow: ∀(L M:List Rw) (v w:Nat) O A,(∀n,lowO n A)→LowI (h++ [.mem 1 26 [.str x.sec,strs x.sig,qm x.tok,qx x.col],.emp 1,.emp 2,.mem 1 29 [.osl (h.length+15) w 7 0 M.length],.mem 1 117 [.fn (.func 79) [] [.op (h.length+3) 1 0]],O5,.mem 1 64 MC,P7,P8,O,O10,O11,O12,.emp 0,.emp 0,zf w 36 (jz (bsW M))])
   (h++ [.mem 1 26 [.str x.sec,strs x.sig,qm x.tok,qx x.col],.emp 1,.emp 2,.mem 1 29 [.osl (h.length+15) v 7 0 L.length],.mem 1 117 [.fn (.func 79) [] [.op (h.length+3) 1 0]],O5,.mem 1 64 MC,P7,P8,A,O10,O11,O12,.emp 0,.emp 0,zf v 36 (jz (bsW L))]):=fun L M v w O A lA=>by
  refine⟨by simp,fun o ho=> ?_⟩;rcases List.mem_append.1 ho with h1|h1
  ·exact .inl (List.mem_append_left _ h1)
  ·simp only[List.mem_cons,List.not_mem_nil,or_false]at h1;rcases h1 with rfl|rfl|rfl|rfl|rfl|rfl|rfl|rfl|rfl|rfl|rfl|rfl|rfl|rfl|rfl|rfl
   ·left;simp
   ·left;simp
   ·left;simp
   ·right;refine⟨fun c hc=> ?_,fun c hc=> ?_⟩<;>
    ·rw[List.mem_singleton]at hc;subst hc;simp[qV]
     try omega
   ·left;simp
   ·left;simp
   ·left;simp
   ·left;simp
   ·left;simp
   ·right;exact⟨lA _,lA _⟩
   ·left;simp
   ·left;simp
   ·left;simp
   ·left;simp
   ·left;simp
   ·right;exact⟨lP _ _ _,lP _ _ _⟩
 refine zy hit (fun a ha=> ?_)
  (S:=fun i hh=> ∃A,qI [A] 0=true∧(∀n,lowO n A)∧hh=h++ [.mem 1 26 [.str x.sec,strs x.sig,qm x.tok,qx x.col],.emp 1,.emp 2,.mem 1 29 [.osl (h.length+15) (vb+i) 7 0 (L0++rwM (ps.take i) (-1) (-1)).length],.mem 1 117 [.fn (.func 79) [] [.op (h.length+3) 1 0]],O5,.mem 1 64 MC,P7,P8,A,O10,O11,O12,.emp 0,.emp 0,zf (vb+i) 36 (jz (bsW (L0++rwM (ps.take i) (-1) (-1))))]) (E:=fun _ _=>False) ?_ ?_ ?_ ?_ ?_ ?_ ?_
 ·obtain⟨c,_,rfl⟩:=List.mem_map.1 ha;rfl
 ·rintro i hh ⟨A,_,lA,rfl⟩;exact hLow _ _ _ _ _ _ lA
 ·intro s hh hf;exact hf.elim
 ·exact⟨O9,s9,l9,by simp[rwM]⟩
 ·simp[qV,qV.lowVs]
  repeat' apply aiA
  all_goals first|rfl|omega|exact lRV _
 ·rintro i hh tl LI TS hi ⟨A,sA,lA,rfl⟩ hlen K1 K2 hK1 hN1 hR1 hX1;have hi':i<ps.length:=by rw[List.length_map]at hi;exact hi
  rw[List.getElem_map];have sA': ∀m,qI (A::m) 0=true:=fun _=>sA
  have hS:L0++rwM (ps.take (i+1)) (-1) (-1)=(L0++rwM (ps.take i) (-1) (-1))++ [⟨ps.getD i default,-1,-1⟩]:=by
   unfold rwM;rw[List.take_add_one,zL hi',List.map_append,gdqA,zL hi',List.append_assoc];rfl
  have eG:ps[i]=ps.getD i default:=by rw[gdqA,zL hi'];rfl
  rw[eG];have hpm:ps.getD i default∈ps:=je hi';obtain⟨p,hp'⟩: ∃p,p=ps.getD i default:=⟨_,rfl⟩
  rw[←hp']at hS hpm ⊢;obtain⟨M,hM⟩: ∃M,M=L0++rwM (ps.take i) (-1) (-1):=⟨_,rfl⟩
  have hMF: ∀r∈M,PcF r.p:=fun r hr=>by
   rw[hM]at hr;rcases List.mem_append.1 hr with hr|hr
   ·exact hLF r hr
   ·exact hpF _ (List.mem_of_mem_take (jR.1 hr).1)
  have hMn:M.length≤1000000000:=by
   rw[hM,lap,jJ,List.length_take];rw[lap,jJ]at hLn;omega
  rw[←hM]at hS ⊢;simp only[kF,List.append_assoc,lca,lna];simp (disch:=omega) only[sA',pcC,tkC,go_sem];refine hK1 _ _ (h++ [.mem 1 26 [.str x.sec,strs x.sig,qm x.tok,qx x.col],.emp 1,.emp 2,.mem 1 29 [.osl (h.length+15) (vb+i) 7 0 M.length],.mem 1 117 [.fn (.func 79) [] [.op (h.length+3) 1 0]],O5,.mem 1 64 MC,P7,P8,(.mem (qn (some A)+1) 115 (pcC p)),O10,O11,O12,.emp 0,.emp 0,zf (vb+i) 36 (jz (bsW M))]) ?_ ?_ ?_
  ·simp[pcC,tkC]
  ·simp
  ·simp only[List.append_assoc,lca,lna];simp (disch:=omega) only[pcC,tkC,go_sem]
   repeat' first
    |with_reducible apply aiA
   all_goals try exact clz
   refine kr (qwJ (a:=h.length+3) (b:=h.length+15) (c:=h.length) (va:=1) (vb:=vb+i) (Z:= .mem 1 26 [.str x.sec,strs x.sig,qm x.tok,qx x.col]) ⟨by simp,by simp,by simp,om,om,om⟩ M p (-1) (-1) (by simp only[go_sem]) (by simp only[go_sem]) (by simp only[go_sem]) (by rw[←hX0];exact lX0) (hpF p hpm) hMn hMF) ?_;simp (disch:=omega) only[go_sem];refine hN1 _ _ (h++ [.mem 1 26 [.str x.sec,strs x.sig,qm x.tok,qx x.col],.emp 1,.emp 2,.mem 1 29 [.osl (h.length+15) (vb+(i+1)) 7 0 (M++ [(⟨p,-1,-1⟩:Rw)]).length],.mem 1 117 [.fn (.func 79) [] [.op (h.length+3) 1 0]],O5,.mem 1 64 MC,P7,P8,(.mem (qn (some A)+1) 115 (pcC p)),O10,O11,O12,.emp 0,.emp 0,zf (vb+(i+1)) 36 (jz (bsW (M++ [(⟨p,-1,-1⟩:Rw)])))]) ?_ ?_ ⟨_,rfl,?_,by rw[hS]⟩
   ·simp[pcC,tkC,Nat.add_assoc]
   ·simp
   ·intro n c hc;simp[pcC,tkC]at hc;rcases hc with rfl|rfl|rfl|rfl|rfl|rfl|rfl<;>rfl
 ·rintro hh ⟨A,sA,lA,rfl⟩;rw[List.length_map,List.take_length];obtain⟨L1,hL1⟩: ∃L1,L1=L0++rwM ps (-1) (-1):=⟨_,rfl⟩
  rw[←hL1]
  by_cases hkl:k<0
  case neg=>
   have hke:k=0:=by omega
   obtain⟨b1,b2⟩:f=x.col.length∧t'=x.col.length:=⟨hf,ht'⟩
   have q4:((k:Int)=0)=True:=eqt om;rw[hP7,hP8];simp (disch:=omega) only[q4,go_sem]
   repeat' first
    |with_reducible apply aiA
   all_goals try exact clz
   rw[←hP7,←hP8];have e1:rwK x [] [] S (k+1)=L1:=by
    unfold rwK;rw[ine (by simp),hL1,hL0,hps,b1,hke];rfl
   have e2:nxT x [] (k+1)=t':=by unfold nxT;rw[ine (by simp),b2]
   refine hK _ _ ⟨k+1,vb+ps.length,P7,P8,A,O10,O11,O12⟩ ⟨by simp only;omega,fun O hO=> ?_⟩ (by simp only;omega) ?_
   ·simp only[List.mem_cons,List.not_mem_nil,or_false]at hO;rcases hO with rfl|rfl|rfl|rfl|rfl|rfl
    ·exact hP7l
    ·exact hP8l
    ·exact⟨sA,lA⟩
    ·exact⟨s10,l10⟩
    ·exact⟨s11,l11⟩
    ·exact⟨s12,l12⟩
   ·simp only[e1,e2];refine Wk.temps ?_
    (simp only[go_sem,qh,qc,qa,qg];try (repeat' first|(with_reducible apply aiA)|(apply qf;omega)|(apply qd;rfl)|exact qi))
  exact absurd hkl (nnz k)
 ·intro e hh hf;exact hf.elim
theorem qCv(h:List AObj)(k:Nat)(hk:qI h k=true):ACalls Tryz.prog 81 [.el] h (.osl k (qn (qu k h)+1) 3 0 0) (qp k h (.mem (qn (qu k h)+1) 64 [])):=by
 refine qgd qt6 k (by simp) ?_;simp only[lco,lnl,Nat.reduceAdd,Nat.reduceSub,List.replicate,lca,lna];simp (disch:=omega) only[qBU,go_sem]
 repeat' first
  |(with_reducible apply aiA)
 all_goals first
  |omega
  |contradiction
  |skip
 all_goals try rfl
 exact⟨h.length+1,2,3,0,0,64,[],_,⟨trivial,trivial⟩,rfl,rfl,om,by simp only[go_sem],(fun c hc=>by cases hc),hk,rfl,rfl⟩
theorem qCL(x:Co)(d:List Dc)(s:Int)(h:List AObj)(hz:qcT x)(hp:kN SG h)(hg:zR h frmN frmC)(hd:d.length≤1000000)(ht: ∀o∈d,o.txt.length≤1000)(hN0:vaE x []=0→(rwA x [] d s.toNat).length≤1000000000):
  ACalls Tryz.prog 25 [.agg (coC x),.el,kO d,.int .i64 s] h (.tup [qav (esR x [] d s),.int .i64 (esE x [] d s)]) h:=by
 have hu:qf7 []:=⟨by simp,fun i=>by simp;exact nzl _,fun i j=>by simp;exact nzl _,fun i j=>by simp;exact nzl _⟩
 have c1:=fun l'=>(qpm x [] (h++l') hz hu (hp.app l')).le (args:= [.agg (coC x),.el]) ⟨qi,qrU,trivial⟩ (qi)
 have zu: ∀g l,valL g .len [zO l]= .int .i64 l.length:=fun _ _=>rfl
 have zv: ∀g l,okL g .len [zO l]=True:=fun _ _=>eqt trivial
 have zu1: ∀g l,valL g .len [strs l]= .int .i64 l.length:=fun _ _=>rfl
 have zv1: ∀g l,okL g .len [strs l]=True:=fun _ _=>eqt trivial
 have hE:esE x [] d s=(if vaE x []≠0 then vaE x [] else if s<0∨(x.sig.length:Int)≤s then 2 else if qbZ x [] d≠0 then qbZ x [] d else if 1024<(rwA x [] d s.toNat).length then 4 else 0):=rfl;unfold esR
 by_cases g:vaE x []=0
 case neg=>
  have k1:(vaE x []=0)=False:=eqf g;rw[ipo g]at hE;rw[hE,ine g];unfold coC at c1;refine acO qa6 ?_;simp (disch:=omega) only[qf9,coC,go_sem]
  repeat' first
   |(refine cA (c1 _) flk ?_;simp (disch:=omega) only[k1,go_sem])
   |(apply qb;exact rvk;simp only[go_sem])
  exact VLe.tup ⟨ze,qi,trivial⟩
 rw[ine (by simpa using g)]at hE;have hN:=hN0 g;simp only[g]at c1;obtain⟨hca,hus,hcv⟩:=qf2 g;have ho:=qcc hca
 by_cases g2:s<0
 ·have k2:(s<0)=True:=eqt g2;rw[ipo (.inl g2)]at hE;rw[hE,ine (by decide)];unfold coC at c1;refine acO qa6 ?_;simp (disch:=omega) only[qf9,coC,go_sem]
  repeat' first
   |(refine cA (c1 _) flk ?_;simp (disch:=omega) only[k2,go_sem])
   |(apply qb;exact rvk;simp only[go_sem])
  exact VLe.tup ⟨ze,qi,trivial⟩
 have k2:(s<0)=False:=eqf g2
 by_cases g3:(x.sig.length:Int)≤s
 ·have k3:((x.sig.length:Int)≤s)=True:=eqt g3;rw[ipo (.inr g3)]at hE;rw[hE,ine (by decide)];unfold coC at c1;refine acO qa6 ?_;simp (disch:=omega) only[qf9,coC,go_sem]
  repeat' first
   |(refine cA (c1 _) flk ?_;simp (disch:=omega) only[k2,k3,zu1,zv1,go_sem])
   |(apply qb;exact rvk;simp only[go_sem])
  exact VLe.tup ⟨ze,qi,trivial⟩
 have k3:((x.sig.length:Int)≤s)=False:=eqf g3;rw[ine (fun e=>e.elim g2 g3)]at hE;have c2:=fun l'=>(qDw x [] d (h++l') hz hu (hp.app l') hg.app hca hd ht).le (args:= [.agg (coC x),.el,kO d]) ⟨qi,qrU,qi,trivial⟩ (qi)
 unfold qAF at c2
 by_cases g4:qbZ x [] d=0
 case neg=>
  have k4:(qbZ x [] d=0)=False:=eqf g4;simp only[ine g4]at c2;rw[ipo g4]at hE;rw[hE,ine g4];unfold coC at c1 c2;refine acO qa6 ?_;simp (disch:=omega) only[qf9,coC,go_sem]
  repeat' first
   |((first|refine cA (c1 _) ?_ ?_|refine cA (c2 _) ?_ ?_);exact flk;simp (disch:=omega) only[k2,k3,k4,zu1,zv1,go_sem])
   |(apply qb;exact rvk;simp only[go_sem])
   |with_reducible apply aiA
  all_goals try exact clz
  exact VLe.tup ⟨ze,qi,trivial⟩
 rw[ine (by simpa using g4)]at hE;simp only[g4,if_true]at c2;rw[hE];unfold coC at c1 c2;refine acO qa6 ?_;simp (disch:=omega) only[qf9,coC,go_sem]
 repeat' first
  |((first|refine cA (c1 _) ?_ ?_|refine cA (c2 _) ?_ ?_);exact flk;simp (disch:=omega) only[k2,k3,zu1,zv1,go_sem])
  |with_reducible apply aiA
 all_goals try exact clz
 have hd0:d= []:=by
  cases d with
  |nil=>rfl
  |cons o r=>
   exfalso
   have:=g4
   unfold qbZ at this;split at this
   ·cases this
   ·have h0:=jQ.1 this 0 (by simp);have h1:=(qa8 h0).2.2.2.2.1;have h2:kJ x [] ((o::r).getD 0 default)= -1:=rfl;omega
 subst hd0;have zi: ∀g l,valL g .len [qF l]= .int .i64 l.length:=fun _ _=>rfl
 have zj: ∀g l,okL g .len [qF l]=True:=fun _ _=>eqt trivial
 have ePL:(plG x [] [] ([]:List Dc).length).length=0:=rfl;refine qz (qAX (j:=h.length+2) (-1) (List.drop 1 (zk [.int .i64 0] 1)) ?j1) (by exact flk) ?_
 case j1=>simp only[go_sem]
 simp (disch:=omega) only[zi,zj,go_sem];refine qr (T:=fun _:Unit=>qZ 154 [(1,.el),(3,.int .i64 s),(4,.op h.length 1 0),(13,qF []),(56,.int .i64 0),(57,.int .i64 0)])
  (H:=fun _=>h++ [.mem 1 26 [.str x.sec,strs x.sig,qm x.tok,qx x.col],.emp 1,.emp 2,.emp 0,.emp 0,.emp 0,.emp 0,.emp 0,.emp 0,.emp 0,.emp 0,.emp 0,.emp 0,.emp 0,.emp 0,.emp 0])
  (inv:=fun _=>True) (m:=fun _=>0) () trivial (Wk.temps ?_) ?_
 ·(simp only[go_sem,qh,qc,qa,qg];try (repeat' first|(with_reducible apply aiA)|(apply qf;omega)|(apply qd;rfl)|exact qi))
 rintro⟨⟩-K hK;have q1:((0:Int)<0)=False:=eqf om;simp (disch:=omega) only[q1,go_sem];refine⟨_,_,Wk.ownNil (j:=h.length+3) (i:=0) (k:=h.length+15) (v:=1) (ty:=29) (cs:= [.nl]) (ve:=0) (sz:=7) ?m1 rfl ?m2,?_⟩
 case m1=>simp only[go_sem]
 case m2=>simp only[go_sem]
 simp (disch:=omega) only[List.set_cons_zero,go_sem];have bne5:(h.length+14 !=h.length+5)=true:=by simp
 have zc: ∀g l,valL g .len [qx l]= .int .i64 l.length:=fun _ _=>rfl
 have zd: ∀g l,okL g .len [qx l]=True:=fun _ _=>eqt trivial
 refine ku ?T ?H ?h1 ?h2
 case h1=>
  simp (disch:=omega) only[zc,zd,go_sem]
  repeat' first
   |(with_reducible apply aiA)
   |(refine qz (qCv _ (h.length+14) (by simp only[go_sem])) (by exact flk) ?_;simp (disch:=omega) only[zc,zd,go_sem])
  all_goals first
   |omega
   |rfl
   |exact bne5
 case h2=>
 simp (disch:=omega) only[go_sem];obtain⟨S,hS⟩: ∃S:Nat,s=S:=⟨s.toNat,om⟩
 subst hS;rw[itn]at hN ⊢;have hSl:S<x.sig.length:=by omega
 obtain⟨MC,hMC⟩: ∃MC,MC= [AV.int .i64 x.col.length,.int .i64 x.col.length,.nl]:=⟨_,rfl⟩
 rw[←hMC];obtain⟨O5,hO5⟩: ∃O5,O5=AObj.mem 1 64 (AV.int .i64 x.col.length:: .int .i64 x.col.length:: .nl::List.drop 3 (zk [.int .i64 0,.int .i64 0,.nl] 1)):=⟨_,rfl⟩
 rw[←hO5];obtain⟨X0,hX0⟩: ∃X0,X0=AObj.mem 1 26 [.str x.sec,strs x.sig,qm x.tok,qx x.col]:=⟨_,rfl⟩
 have lX0: ∀n,lowO n X0:=by
  intro n;rw[hX0];intro c hc;simp at hc;rcases hc with rfl|rfl|rfl|rfl<;>rfl
 refine qr (T:=fun i:EsS=>qZ 154 [(1,.el),(3,.int .i64 (S:Int)),(4,.op h.length 1 0),(13,qF []),(16,.op (h.length+3) 1 0),(17,.op (h.length+4) 1 0),(18,.int .i64 (nxT x [] i.k:Int)),(78,.osl (h.length+14) 2 3 0 1),(79,.int .i64 1),(80,.int .i64 i.k)])
  (H:=fun i=>h++ [.mem 1 26 [.str x.sec,strs x.sig,qm x.tok,qx x.col],.emp 1,.emp 2,.mem 1 29 [.osl (h.length+15) i.vb 7 0 (rwK x [] [] S i.k).length],.mem 1 117 [.fn (.func 79) [] [.op (h.length+3) 1 0]],O5,.emp 0,i.O7,i.O8,i.O9,i.O10,i.O11,i.O12,.emp 0,.mem 2 64 MC,zf i.vb 36 (jz (bsW (rwK x [] [] S i.k)))])
  (inv:=fun i=>i.k≤1∧ ∀O∈ [i.O7,i.O8,i.O9,i.O10,i.O11,i.O12],qI [O] 0=true∧ ∀n,lowO n O) (m:=fun i=>1-i.k) ⟨0,0,.emp 0,.emp 0,.emp 0,.emp 0,.emp 0,.emp 0⟩ ⟨nzl _,fun O hO=>by
   simp at hO;subst hO;exact⟨rfl,fun _=>trivial⟩⟩ (Wk.temps ?_) ?_
 ·(simp only[go_sem,qh,qc,qa,qg];try (repeat' first|(with_reducible apply aiA)|(apply qf;omega)|(apply qd;rfl)|exact qi))
  done
 rintro⟨k,vb,O7,O8,O9,O10,O11,O12⟩ ⟨i1,i2⟩ K hK;simp only at i1 i2 hK;obtain⟨s7,l7⟩:=i2 O7 (by simp);obtain⟨s8,l8⟩:=i2 O8 (by simp);obtain⟨s9,l9⟩:=i2 O9 (by simp);obtain⟨s10,l10⟩:=i2 O10 (by simp);obtain⟨s11,l11⟩:=i2 O11 (by simp);obtain⟨s12,l12⟩:=i2 O12 (by simp);have s7': ∀m,qI (O7::m) 0=true:=fun _=>s7
 have s8': ∀m,qI (O8::m) 0=true:=fun _=>s8
 by_cases hk:k≤0
 case neg=>
  have q1:((k:Int)<(1:Int))=False:=eqf om;have eR:rwK x [] [] S k=rwA x [] [] S:=by unfold rwK;rw[lnl,ine hk]
  rw[eR]
  by_cases g5:1024<(rwA x [] [] S).length
  ·have q5:((1024:Int)<(rwA x [] [] S).length)=True:=eqt om;simp only[ipo g5];simp (disch:=omega) only[q1,q5,go_sem]
   repeat' first
    |(apply qb;exact rvk;simp only[go_sem])
    |with_reducible apply aiA
   all_goals try exact clz
   exact VLe.tup ⟨ze,qi,trivial⟩
  ·have q5:((1024:Int)<(rwA x [] [] S).length)=False:=eqf om;simp only[ine g5];simp (disch:=omega) only[q1,q5,go_sem]
   repeat' first
    |(apply qb;exact rvk;simp only[go_sem])
    |with_reducible apply aiA
   all_goals try exact clz
   exact VLe.tup ⟨qeH (kV _).symm,qi,trivial⟩
 have q1:((k:Int)<(1:Int))=True:=eqt om;have q2:(0≤(k:Int))=True:=eqt om;have hk0:k=0:=by omega
 have hMl:MC.length=3:=by rw[hMC];rfl
 have q3:(k*3+3≤MC.length)=True:=eqt om;have eR:rwK x [] [] S k=rwL x [] [] S k:=by unfold rwK;rw[lnl,ipo hk]
 have eN:nxT x [] k=jx [] k:=by unfold nxT;rw[lnl,ipo hk]
 rw[eR,eN];obtain⟨f,hf⟩: ∃f,f=x.col.length:=⟨_,rfl⟩
 obtain⟨t',ht'⟩: ∃t',t'=x.col.length:=⟨_,rfl⟩
 obtain⟨RV,hRV⟩: ∃RV,RV=AV.nl:=⟨_,rfl⟩
 have eM:List.take 3 (List.drop (k*3) MC)= [.int .i64 (f:Int),.int .i64 (t':Int),RV]:=by rw[hk0,hMC,hf,ht',hRV];rfl
 have a5:jx [] k≤f:=by rw[hk0];exact nzl _
 have a6:f≤x.col.length:=by omega
 have lRV: ∀n,qV n RV=true:=fun n=>by rw[hRV];rfl
 have c3:=fun h=>qBd x (jx [] k) f S h
 have hit:=itS x S (jx [] k) f hz ho hSl a6 a5;have hpF:=qaG ho hSl (f:=jx [] k) (d:=f-jx [] k) om;obtain⟨ps,hps⟩: ∃ps,ps=spk x S (jx [] k) (f-jx [] k):=⟨_,rfl⟩
 have hxl:(spX x S (jx [] k) (f-jx [] k))=ps.map fun p=> [.agg (pcC p)]:=by unfold spX;rw[hps]
 rw[hxl]at hit;rw[←hps]at hpF;unfold coC at c3 hit;simp (disch:=omega) only[q1,q2,q3,eM,s7',s8',go_sem]
 repeat' first
  |(refine cA (c3 _) flk ?_;simp (disch:=omega) only[go_sem])
  |with_reducible apply aiA
 all_goals try exact clz
 obtain⟨L0,hL0⟩: ∃L0,L0=rwL x [] [] S k:=⟨_,rfl⟩
 have hLF: ∀r∈L0,PcF r.p:=by rw[hL0];exact qgz ho hus hSl (fun i hi=>absurd hi (by simp)) hk
 have hLn:(L0++rwM ps (-1) (-1)).length≤1000000000:=by
  refine Nat.le_trans ?_ hN;rw[hL0,hps,hf,hk0];exact nlr _
 rw[←hL0];obtain⟨P7,hP7⟩: ∃P7,P7=AObj.mem (qn (some O7)+1) 3 [.int .i64 (k:Int)]:=⟨_,rfl⟩
 obtain⟨P8,hP8⟩: ∃P8,P8=AObj.mem (qn (some O8)+1) 64 [.int .i64 (f:Int),.int .i64 (t':Int),RV]:=⟨_,rfl⟩
 have hP7l:qI [P7] 0=true∧ ∀n,lowO n P7:=by
  rw[hP7];refine⟨rfl,fun n c hc=> ?_⟩;rw[List.mem_singleton]at hc;subst hc;rfl
 have hP8l:qI [P8] 0=true∧ ∀n,lowO n P8:=by
  rw[hP8];refine⟨rfl,fun n c hc=> ?_⟩;simp only[List.mem_cons,List.not_mem_nil,or_false]at hc;rcases hc with rfl|rfl|rfl
  ·rfl
  ·rfl
  ·exact lRV n
 have cP7: ∀m,cellsOf (P7::m) 0 (qn (some O7)+1)=some [.int .i64 (k:Int)]:=fun m=>by rw[hP7];simp only[go_sem]
 rw[←hP7,←hP8];have lP: ∀L:List Rw,∀v n,lowO n (zf v 36 (jz (bsW L))):=fun L v n=>jt (qcS _ n)
 have hLow: ∀(L M:List Rw) (v w:Nat) O A,(∀n,lowO n A)→LowI (h++ [.mem 1 26 [.str x.sec,strs x.sig,qm x.tok,qx x.col],.emp 1,.emp 2,.mem 1 29 [.osl (h.length+15) w 7 0 M.length],.mem 1 117 [.fn (.func 79) [] [.op (h.length+3) 1 0]],O5,.emp 0,P7,P8,O,O10,O11,O12,.emp 0,.mem 2 64 MC,zf w 36 (jz (bsW M))])
   (h++ [.mem 1 26 [.str x.sec,strs x.sig,qm x.tok,qx x.col],.emp 1,.emp 2,.mem 1 29 [.osl (h.length+15) v 7 0 L.length],.mem 1 117 [.fn (.func 79) [] [.op (h.length+3) 1 0]],O5,.emp 0,P7,P8,A,O10,O11,O12,.emp 0,.mem 2 64 MC,zf v 36 (jz (bsW L))]):=fun L M v w O A lA=>by
  refine⟨by simp,fun o ho=> ?_⟩;rcases List.mem_append.1 ho with h1|h1
  ·exact .inl (List.mem_append_left _ h1)
  ·simp only[List.mem_cons,List.not_mem_nil,or_false]at h1;rcases h1 with rfl|rfl|rfl|rfl|rfl|rfl|rfl|rfl|rfl|rfl|rfl|rfl|rfl|rfl|rfl|rfl
   ·left;simp
   ·left;simp
   ·left;simp
   ·right;refine⟨fun c hc=> ?_,fun c hc=> ?_⟩<;>
    ·rw[List.mem_singleton]at hc;subst hc;simp[qV]
     try omega
   ·left;simp
   ·left;simp
   ·left;simp
   ·left;simp
   ·left;simp
   ·right;exact⟨lA _,lA _⟩
   ·left;simp
   ·left;simp
   ·left;simp
   ·left;simp
   ·left;simp
   ·right;exact⟨lP _ _ _,lP _ _ _⟩
 refine zy hit (fun a ha=> ?_)
  (S:=fun i hh=> ∃A,qI [A] 0=true∧(∀n,lowO n A)∧hh=h++ [.mem 1 26 [.str x.sec,strs x.sig,qm x.tok,qx x.col],.emp 1,.emp 2,.mem 1 29 [.osl (h.length+15) (vb+i) 7 0 (L0++rwM (ps.take i) (-1) (-1)).length],.mem 1 117 [.fn (.func 79) [] [.op (h.length+3) 1 0]],O5,.emp 0,P7,P8,A,O10,O11,O12,.emp 0,.mem 2 64 MC,zf (vb+i) 36 (jz (bsW (L0++rwM (ps.take i) (-1) (-1))))]) (E:=fun _ _=>False) ?_ ?_ ?_ ?_ ?_ ?_ ?_
 ·obtain⟨c,_,rfl⟩:=List.mem_map.1 ha;rfl
 ·rintro i hh ⟨A,_,lA,rfl⟩;exact hLow _ _ _ _ _ _ lA
 ·intro s hh hf;exact hf.elim
 ·exact⟨O9,s9,l9,by simp[rwM]⟩
 ·simp[qV,qV.lowVs]
  repeat' apply aiA
  all_goals first|rfl|omega|exact lRV _
 ·rintro i hh tl LI TS hi ⟨A,sA,lA,rfl⟩ hlen K1 K2 hK1 hN1 hR1 hX1;have hi':i<ps.length:=by rw[List.length_map]at hi;exact hi
  rw[List.getElem_map];have sA': ∀m,qI (A::m) 0=true:=fun _=>sA
  have hS:L0++rwM (ps.take (i+1)) (-1) (-1)=(L0++rwM (ps.take i) (-1) (-1))++ [⟨ps.getD i default,-1,-1⟩]:=by
   unfold rwM;rw[List.take_add_one,zL hi',List.map_append,gdqA,zL hi',List.append_assoc];rfl
  have eG:ps[i]=ps.getD i default:=by rw[gdqA,zL hi'];rfl
  rw[eG];have hpm:ps.getD i default∈ps:=je hi';obtain⟨p,hp'⟩: ∃p,p=ps.getD i default:=⟨_,rfl⟩
  rw[←hp']at hS hpm ⊢;obtain⟨M,hM⟩: ∃M,M=L0++rwM (ps.take i) (-1) (-1):=⟨_,rfl⟩
  have hMF: ∀r∈M,PcF r.p:=fun r hr=>by
   rw[hM]at hr;rcases List.mem_append.1 hr with hr|hr
   ·exact hLF r hr
   ·exact hpF _ (List.mem_of_mem_take (jR.1 hr).1)
  have hMn:M.length≤1000000000:=by
   rw[hM,lap,jJ,List.length_take];rw[lap,jJ]at hLn;omega
  rw[←hM]at hS ⊢;simp only[kF,List.append_assoc,lca,lna];simp (disch:=omega) only[sA',pcC,tkC,go_sem];refine hK1 _ _ (h++ [.mem 1 26 [.str x.sec,strs x.sig,qm x.tok,qx x.col],.emp 1,.emp 2,.mem 1 29 [.osl (h.length+15) (vb+i) 7 0 M.length],.mem 1 117 [.fn (.func 79) [] [.op (h.length+3) 1 0]],O5,.emp 0,P7,P8,(.mem (qn (some A)+1) 115 (pcC p)),O10,O11,O12,.emp 0,.mem 2 64 MC,zf (vb+i) 36 (jz (bsW M))]) ?_ ?_ ?_
  ·simp[pcC,tkC]
  ·simp
  ·simp only[List.append_assoc,lca,lna];simp (disch:=omega) only[pcC,tkC,go_sem]
   repeat' first
    |with_reducible apply aiA
   all_goals try exact clz
   refine kr (qwJ (a:=h.length+3) (b:=h.length+15) (c:=h.length) (va:=1) (vb:=vb+i) (Z:= .mem 1 26 [.str x.sec,strs x.sig,qm x.tok,qx x.col]) ⟨by simp,by simp,by simp,om,om,om⟩ M p (-1) (-1) (by simp only[go_sem]) (by simp only[go_sem]) (by simp only[go_sem]) (by rw[←hX0];exact lX0) (hpF p hpm) hMn hMF) ?_;simp (disch:=omega) only[go_sem];refine hN1 _ _ (h++ [.mem 1 26 [.str x.sec,strs x.sig,qm x.tok,qx x.col],.emp 1,.emp 2,.mem 1 29 [.osl (h.length+15) (vb+(i+1)) 7 0 (M++ [(⟨p,-1,-1⟩:Rw)]).length],.mem 1 117 [.fn (.func 79) [] [.op (h.length+3) 1 0]],O5,.emp 0,P7,P8,(.mem (qn (some A)+1) 115 (pcC p)),O10,O11,O12,.emp 0,.mem 2 64 MC,zf (vb+(i+1)) 36 (jz (bsW (M++ [(⟨p,-1,-1⟩:Rw)])))]) ?_ ?_ ⟨_,rfl,?_,by rw[hS]⟩
   ·simp[pcC,tkC,Nat.add_assoc]
   ·simp
   ·intro n c hc;simp[pcC,tkC]at hc;rcases hc with rfl|rfl|rfl|rfl|rfl|rfl|rfl<;>rfl
 ·rintro hh ⟨A,sA,lA,rfl⟩;rw[List.length_map,List.take_length];obtain⟨L1,hL1⟩: ∃L1,L1=L0++rwM ps (-1) (-1):=⟨_,rfl⟩
  rw[←hL1]
  by_cases hkl:k<0
  case neg=>
   have hke:k=0:=by omega
   obtain⟨b1,b2⟩:f=x.col.length∧t'=x.col.length:=⟨hf,ht'⟩
   have q4:((k:Int)=0)=True:=eqt om;rw[hP7,hP8];simp (disch:=omega) only[q4,go_sem]
   repeat' first
    |with_reducible apply aiA
   all_goals try exact clz
   rw[←hP7,←hP8];have e1:rwK x [] [] S (k+1)=L1:=by
    unfold rwK;rw[ine (by simp),hL1,hL0,hps,b1,hke];rfl
   have e2:nxT x [] (k+1)=t':=by unfold nxT;rw[ine (by simp),b2]
   refine hK _ _ ⟨k+1,vb+ps.length,P7,P8,A,O10,O11,O12⟩ ⟨by simp only;omega,fun O hO=> ?_⟩ (by simp only;omega) ?_
   ·simp only[List.mem_cons,List.not_mem_nil,or_false]at hO;rcases hO with rfl|rfl|rfl|rfl|rfl|rfl
    ·exact hP7l
    ·exact hP8l
    ·exact⟨sA,lA⟩
    ·exact⟨s10,l10⟩
    ·exact⟨s11,l11⟩
    ·exact⟨s12,l12⟩
   ·simp only[e1,e2];refine Wk.temps ?_
    (simp only[go_sem,qh,qc,qa,qg];try (repeat' first|(with_reducible apply aiA)|(apply qf;omega)|(apply qd;rfl)|exact qi))
  exact absurd hkl (nnz k)
 ·intro e hh hf;exact hf.elim
theorem qyv(x:Co)(l:List Un)(d:List Dc)(s:Int)(h:List AObj)(hz:qcT x)(hu:qf7 l)(hp:kN SG h)(hg:zR h frmN frmC)(hd:d.length≤1000000)(ht: ∀o∈d,o.txt.length≤1000)(hN0:vaE x l=0→(rwA x l d s.toNat).length≤1000000000):
  ACalls Tryz.prog 25 [.agg (coC x),zO l,kO d,.int .i64 s] h (.tup [qav (esR x l d s),.int .i64 (esE x l d s)]) h:=by
 cases l with
 |nil=>exact ACalls.sl0 (pre:= [.agg (coC x)]) (post:= [kO d,.int .i64 s]) (qCK x d s h hz hp hg hd ht hN0) (qCL x d s h hz hp hg hd ht hN0)
 |cons u r=>exact qE2 x (u::r) d s h hz hu hp hg (List.cons_ne_nil _ _) hd ht hN0
theorem qEW(r:Rd)(own:List Str)(h:List AObj)(h1:r.words.length≤1000000000)(h2:own.length≤1000000000):ACalls Tryz.prog 105 [.agg (rdC r),.ip [strs own]] h (.bool (decide (r.words=own))) h:=by
 have c1:=fun h=>qBV r.words own h h1 h2
 unfold strs at c1;refine acO qyy ?_;simp (disch:=omega) only[qwZ,rdC,strs,go_sem]
 repeat' first
  |((first|refine cA (c1 _) ?_ ?_|refine cG (fun e=>c1 _) ?_ ?_|refine cU (fun _=>c1 _) ?_ ?_);exact flk;simp (disch:=omega) only[rdC,strs,go_sem])
  |((first|apply qb|apply qe);exact rvk;simp only[go_sem];first|exact qi|apply qf|apply qd|apply zV|skip)
  |with_reducible first|intro _|apply aiA
 all_goals try exact clz
theorem qqM(L:List Rd)(own:List Str):qch (fun r=>decide ((L.getD r default).words=own)) L.length 0=qdp L own:=by
 unfold qdp;congr 1;funext r;exact decide_eq_decide.2 eq_comm
theorem qFh(L:List Rd)(own:List Str)(k v:Nat)(h:List AObj)(hk:qu k h=some (.mem v 22 [strs own]))(hl:L.length≤1000000000)(hw: ∀j,(L.getD j default).words.length≤1000000000)(ho:own.length≤1000000000):
  ACalls Tryz.prog 104 [jD L,.fn (.func 105) [] [.op k v 0]] h (.int .i64 (qdp L own)) h:=by
 have hc:=qO hk;rw[←qqM];unfold jD;refine qen qlM L.length (fun j=>rdC (L.getD j default)) (fun j=> .agg (rdC (L.getD j default))) _ [] [.op k v 0] _ h (fun i _=>⟨rfl,by simp[j8,rdC],rfl,rfl,rfl⟩) (fun i _=> ?_) om;refine ACalls.borrow ?_ rfl;have e:([AV.agg (rdC (L.getD i default))]++ [AV.op k v 0]).map (rei (fun _=>true) h 8)= [.agg (rdC (L.getD i default)),.ip [strs own]]:=by
  simp only[lca,lna,List.map_cons,List.map_nil,rei_op,if_true,hc,ipOf_some,List.drop_zero,rei_agg];rfl
 rw[lna,e];exact qEW _ own _ (hw i) ho
theorem qre{v n:Nat}{L:List Int}{g:AV→AV}(hg: ∀s,g (.int .i64 s)= .int .i64 s)(hn:n=L.length):VLe (qgc (some (zf v 3 (qR L))) v 1 0 n g) (qF L):=by
 subst hn
 by_cases h:L= []
 ·subst h;show VLe (qgc (some (.emp v)) v 1 0 0 g) _;rw[slOf_emp,ipo rfl];exact ze
 ·have e0:zf v 3 (qR L)= .mem v 3 (qR L):=kW (fun e=>h (qfu.1 e));rw[e0,slOf_mem,ipo ⟨rfl,by rw[jp];omega⟩];simp only[Nat.zero_add,Nat.mul_one];exact qfv g hg rfl
def chP(l:List Un)(b:List Wd)(i:Nat):List Int:=(List.range i).map (chK l b)
theorem qpk(l:List Un)(b:List Wd)(i:Nat):chP l b (i+1)=chP l b i++ [chK l b i]:=by unfold chP;rw[List.range_succ,List.map_append];rfl
theorem qle(l:List Un)(b:List Wd)(i:Nat):(chP l b i).length=i:=by simp[chP]
def chR(x:Co)(l:List Un)(d:List Dc)(s:Int):List Int:=if esE x l d s=0 then chP l (esR x l d s) l.length else []
theorem qCs(x:Co)(l:List Un)(d:List Dc)(s:Int)(h:List AObj)(hz:qcT x)(hu:qf7 l)(hp:kN SG h)(hg:zR h frmN frmC)(hd:d.length≤1000000)(ht: ∀o∈d,o.txt.length≤1000)(hN0:vaE x l=0→(rwA x l d s.toNat).length≤1000000000):
  ACalls Tryz.prog 48 [.agg (coC x),zO l,kO d,.int .i64 s] h (.tup [qF (chR x l d s),.int .i64 (esE x l d s)]) h:=by
 have c1:=fun l'=>qyv x l d s (h++l') hz hu (hp.app l') hg.app hd ht hN0
 have hb:=qtU (x:=x) (l:=l) (d:=d) (s:=s);have hl:=hu.n;unfold chR;obtain⟨b,hbb⟩: ∃b,b=esR x l d s:=⟨_,rfl⟩
 obtain⟨E,hE⟩: ∃E,E=esE x l d s:=⟨_,rfl⟩
 simp only[←hbb,←hE]at c1 hb ⊢;unfold coC at c1
 by_cases g:E=0
 case neg=>
  have k1:(E=0)=False:=eqf g;rw[ine g];refine acO qzP ?_;simp (disch:=omega) only[qCf,coC,go_sem]
  repeat' first
   |((first|refine cA (c1 _) ?_ ?_|refine cG (fun e=>c1 _) ?_ ?_|refine cU (fun _=>c1 _) ?_ ?_);exact flk;simp (disch:=omega) only[coC,k1,go_sem])
   |((first|apply qb|apply qe);exact rvk;simp only[go_sem];first|exact qi|apply qf|apply qd|apply zV|skip)
   |with_reducible first|intro _|apply aiA
  all_goals try exact clz
  exact VLe.tup ⟨ze,qi,trivial⟩
 subst g;rw[ipo rfl];have zu1: ∀g,valL g .len [zO l]= .int .i64 l.length:=fun _=>rfl
 have zu2: ∀g,okL g .len [zO l]=True:=fun _=>eqt trivial
 have zu:zO l= .sl l.length fun i=>unC (l.getD i default):=rfl
 refine acO qzP ?_;simp (disch:=omega) only[qCf,coC,zu1,zu2,go_sem]
 repeat' first
  |((first|refine cA (c1 _) ?_ ?_|refine cG (fun e=>c1 _) ?_ ?_|refine cU (fun _=>c1 _) ?_ ?_);exact flk;simp (disch:=omega) only[coC,zu1,zu2,go_sem])
  |((first|apply qb|apply qe);exact rvk;simp only[go_sem];first|exact qi|apply qf|apply qd|apply zV|skip)
  |with_reducible first|intro _|apply aiA
 all_goals try exact clz
 refine qr (T:=fun s:Nat×Nat×AObj×AObj×AObj=>qZ 46 [(10,qav b),(12,.osl (h.length+2) s.2.1 1 0 s.1),(27,zO l),(28,.int .i64 l.length),(29,.int .i64 s.1)])
  (H:=fun s=>h++ [.mem 1 26 (coC x),.emp 1,zf s.2.1 3 (qR (chP l b s.1)),s.2.2.1,s.2.2.2.1,s.2.2.2.2,.emp 0])
  (inv:=fun s=>s.1≤l.length∧qI [s.2.2.1] 0=true∧qI [s.2.2.2.1] 0=true∧qI [s.2.2.2.2] 0=true) (m:=fun s=>l.length-s.1) (0,1,.emp 0,.emp 0,.emp 0) ⟨nzl _,rfl,rfl,rfl⟩ (Wk.temps ?_) ?_
 ·(simp only[coC,chP,List.range_zero,List.map_nil,go_sem,qh,qc,qa,qg];try (repeat' first|(with_reducible apply aiA)|(apply qf;omega)|(apply qd;rfl)|exact qi))
 rintro⟨i,v,O1,O2,O3⟩ ⟨i1,i2,i3,i4⟩ K hK;simp only at i1 i2 i3 i4 hK;have i2': ∀m,qI (O1::m) 0=true:=fun _=>i2
 have i3': ∀m,qI (O2::m) 0=true:=fun _=>i3
 have i4': ∀m,qI (O3::m) 0=true:=fun _=>i4
 have eL:=qle l b i
 by_cases hi:i<l.length
 ·have k1:((i:Int)<l.length)=True:=eqt om;have hS:=qpk l b i;have hK0:chK l b i=qdp (l.getD i default).rds (owG b (i:Int) b.length):=rfl;have hol:=qsB b (i:Int) b.length;have c2:=fun h=>qEx b (i:Int) h om
  have c3:=fun k v h hk=>qFh (l.getD i default).rds (owG b (i:Int) b.length) k v h hk (hu.rd i) (hu.wd i) om
  rw[←hK0]at c3;obtain⟨y,hy⟩: ∃y,y=chK l b i:=⟨_,rfl⟩
  rw[←hy]at hS c3;obtain⟨W,hW⟩: ∃W,W=owG b (i:Int) b.length:=⟨_,rfl⟩
  simp only[←hW]at c2 c3;obtain⟨L,hL⟩: ∃L,L=chP l b i:=⟨_,rfl⟩
  rw[←hL]at hS eL ⊢;obtain⟨u,hux⟩: ∃u,u=l.getD i default:=⟨_,rfl⟩
  have eu:=hux.symm;simp only[eu]at c3;have eC:=jp L;have eTk:List.take i (qR L)=qR L:=ltl om;simp (disch:=omega) only[zu,unC,k1,eu,i2',i3',i4',eC,eL,eTk,Nat.mul_one,go_sem]
  repeat' first
   |((first|refine cA (c2 _) ?_ ?_|refine cG (fun e=>c2 _) ?_ ?_|refine cU (fun _=>c2 _) ?_ ?_);exact flk;simp (disch:=omega) only[zu,unC,k1,eu,i2',i3',i4',eC,eL,eTk,Nat.mul_one,go_sem])
   |((first|apply qb|apply qe);exact rvk;simp only[go_sem];first|exact qi|apply qf|apply qd|apply zV|skip)
   |with_reducible first|intro _|apply aiA
  all_goals try exact clz
  refine cA (c3 (h.length+4) _ _ ?ka) (by exact flk) ?_
  case ka=>simp only[go_sem]
  simp (disch:=omega) only[i2',i3',i4',eC,eL,eTk,Nat.mul_one,go_sem]
  repeat' first
   |((first|apply qb|apply qe);exact rvk;simp only[go_sem];first|exact qi|apply qf|apply qd|apply zV|skip)
   |with_reducible first|intro _|apply aiA
  all_goals try exact clz
  have eA:qR L++ [AV.int .i64 y]=qR (L++ [y]):=by rw[qft];rfl
  try rw[eA]
  refine hK _ _ (i+1,v+1,.mem (qn (some O1)+1) 64 (unC u),.mem (qn (some O2)+1) 22 [strs W],.mem (qn (some O3)+1) 3 [.int .i64 y]) ⟨hi,rfl,rfl,rfl⟩ (by simp only;omega) ?_;simp only[hS,unC];refine Wk.temps ?_
  (simp only[coC,go_sem,qh,qc,qa,qg];try (repeat' first|(with_reducible apply aiA)|(apply qf;omega)|(apply qd;rfl)|exact qi))
 have k1:((i:Int)<l.length)=False:=eqf om;obtain rfl:i=l.length:=by omega
 simp (disch:=omega) only[k1,go_sem]
 repeat' first
  |((first|apply qb|apply qe);exact rvk;simp only[go_sem];first|exact qi|apply qf|apply qd|apply zV|skip)
  |with_reducible first|intro _|apply aiA
 all_goals try exact clz
 exact VLe.tup ⟨qre (fun _=>rfl) eL.symm,qi,trivial⟩
end RC
end
section
open Go Go.Proofs AF
def qeq:List Nat:= []
def qxf:C:=
 ((C.ops [⟨some 2,none,.alloc 0 103 [.str [],.str [],.str [],i6 0,i6 0,.str []],[]⟩]).seq ((C.ops [MV 3 0,MV 4 0,⟨some 5,none,.build [.str [],.str [],.str [],i6 0,i6
 0,.str []] [(0,1),(1,1)],[.t 3,.t 4]⟩,ST 6 2 5]).seq
 C.ret))
theorem qyP:qL Tryz.prog 144 6 1 [RV.cell 2 (some 6)] qxf:=fi Tryz.f144 [2] qeq []
def qEm:C:=
 ((C.ops [⟨some 0,none,.alloc 0 26 [.str [],.nl,.nl,.nl],[]⟩]).seq ((C.ops [⟨some 1,none,.bslc 1 1 2 9 [.str []] [(0,1),(1,1)],[.c (.str [65]),.c (.str [66])]⟩,ON 2
 (.call 144 true) [.c (.str [100,101,117,115])],ON 3 (.call 144 true) [.c (.str [101,115,116])],ON 4 (.call 144 true) [.c (.str [98,111,110,117,115])],⟨some 5,none,
 .bslc 2 6 3 103 [.str [],.str [],.str [],i6 0,i6 0,.str []] [(0,6),(6,6),(12,6)],[.t 2,.t 3,.t 4]⟩,ON 6 (.call 144 true) [.c (.str [100,101,117,115])],ON 7 (.call
 144 true) [.c (.str [98,111,110,117,115])],⟨some 8,none,.bslc 3 6 2 103 [.str [],.str [],.str [],i6 0,i6 0,.str []] [(0,6),(6,6)],[.t 6,.t 7]⟩,⟨some 9,none,
 .bslc 4 1 2 105 [.nl] [(0,1),(1,1)],[.t 5,.t 8]⟩,⟨some 10,none,.bslc 5 1 2 3 [i6 0] [(0,1),(1,1)],[.c (i6 0),.c (i6 0)]⟩,⟨some 11,none,.bslc 6 1 2 3 [i6 0] [(0,1),
 (1,1)],[.c (i6 1),.c (i6 (-1))]⟩,⟨some 12,none,.bslc 7 1 2 3 [i6 0] [(0,1),(1,1)],[.c (i6 2),.c (i6 1)]⟩,⟨some 13,none,.bslc 8 1 3 39 [.nl] [(0,1),(1,1),(2,1)],
 [.t 10,.t 11,.t 12]⟩,⟨some 14,none,.build [.str [],.nl,.nl,.nl] [(0,1),(1,1),(2,1),(3,1)],[.c (.str [97]),.t 1,.t 9,.t 13]⟩,ST 4 0 14]).seq
 C.ret))
theorem qC5:qL Tryz.prog 92 15 9 [RV.cell 0 (some 4)] qEm:=fi Tryz.f92 [0,1,5,8,9,10,11,12,13] qeq []
def qx7:C:=
 ((C.ops [O1 1 (.box 0 75) 0,MC 2 (.bool false)]).seq ((C.ops [O1 3 (.fldA 0) 1,O1 4 (.load (some 4)) 3,O1 5 (.call 28 true) 4,MV 6 5,P1 7 6 false (.fldA 4) 1,P1 8 6 false
 (.load none) 7,P1 9 6 false (.call 97 true) 8,PT 10 6 9,MV 11 10,P1 12 11 false (.fldA 5) 1,P1 13 11 false (.load none) 12,P1 14 11 false (.call 23 true) 13,PT 15 11 14,MV
 2 15]).seq
 C.ret))
theorem qpR:qL Tryz.prog 46 16 1 [RV.tmp 2] qx7:=fi Tryz.f46 [1] qeq []
def qx6:C:=
 ((C.ops [O1 1 (.box 0 75) 0,ON 2 (.nilo 1 7 36) [],MC 3 (.bool false)]).seq (((C.ops [O1 6 (.load (some 7)) 1,O1 7 (.call 46 true) 6,MV 8 7,P1 9 8 false (.fldA 0) 1,P1 10 8
 false (.load (some 4)) 9,P1 11 8 false (.call 29 true) 10,PC 12 8 false (.bin .neq) 11 (i6 0),PT 13 8 12]).seq (C.cond (.t 13) ((C.ops [ON 2 (.nilo 1 7 36) [],MC 3 (.bool
 false)]).seq C.ret) C.skip)).seq ((C.ops [O1 15 (.fldA 0) 1,O1 16 (.load (some 4)) 15,O1 17 (.fldA 4) 1,LD 18 17,O1 19 (.fldA 5) 1,LD 20 19,O1 21 (.fldA 6) 1,LD 22 21,ON 23
 (.call 25 true) [.t 16,.t 18,.t 20,.t 22],MV 14 23,O1 24 (.ext 0) 14,O1 25 (.ext 1) 14,MV 4 24,MV 5 25]).seq ((C.ops [MV 26 4,MV 27 5,BC 28 .eql 27 (i6 0),MV 2 26,MV 3
 28]).seq
 C.ret))))
theorem qpQ:qL Tryz.prog 39 29 2 [RV.tmp 2,RV.tmp 3] qx6:=fi Tryz.f39 [1,2] qeq []
end
section
open Go Go.Proofs AF
def qun:List Nat:= [25]
def qEc:C:=
 ((C.ops [MC 0 (.bool false)]).seq ((C.ops [ON 10 (.call 92 true) [],O1 11 (.call 31 true) 10,MV 9 11,O1 12 (.ext 0) 9,O1 13 (.ext 1) 9,MV 1 12,MV 2 13]).seq ((C.ops [ON 15
 (.call 92 true) [],MV 16 1,ON 17 (.call 25 false) [.t 15,.t 16,.c .nl,.c (i6 0)],MV 14 17,O1 18 (.ext 0) 14,O1 19 (.ext 1) 14,MV 3 18,MV 4 19]).seq ((C.ops [ON 21 (.call
 92 true) [],MV 22 1,⟨some 23,none,.build [i6 0,.str [],i6 0,.str []] [(0,1),(1,1),(2,1)],[.c (i6 3),.c (.str [65]),.c (i6 1)]⟩,⟨some 24,none,.bslc 0 4 1 43 [i6 0,
 .str [],i6 0,.str []] [(0,4)],[.t 23]⟩,ON 25 (.call 25 false) [.t 21,.t 22,.t 24,.c (i6 0)],MV 20 25,O1 26 (.ext 0) 20,O1 27 (.ext 1) 20,MV 5 26,MV 6 27]).seq ((C.ops
 [ON 29 (.call 92 true) [],MV 30 1,⟨some 31,none,.build [i6 0,.str [],i6 0,.str []] [(0,1),(1,1),(2,1),(3,1)],[.c (i6 2),.c (.str [65]),.c (i6 1),.c (.str [118,
 101,114,101,44,32,101,116])]⟩,⟨some 32,none,.bslc 1 4 1 43 [i6 0,.str [],i6 0,.str []] [(0,4)],[.t 31]⟩,ON 33 (.call 25 false) [.t 29,.t 30,.t 32,.c (i6 0)],MV
 28 33,O1 34 (.ext 0) 28,O1 35 (.ext 1) 28,MV 7 34,MV 8 35]).seq (((C.ops [MV 36 2,MV 37 4,MV 38 6,MV 39 8,ON 40 (.mm true) [.t 36,.t 37,.t 38,.t 39],BC 41 .neq 40 (i6
 0),MV 42 41,MG 43 42 false 7,P1 44 42 false .len 43,PC 45 42 false (.bin .neq) 44 (i6 5),PT 46 42 45]).seq (C.cond (.t 46) ((C.ops [MC 0 (.bool false)]).seq C.ret)
 C.skip)).seq ((C.ops [MV 47 3,O1 48 (.call 37 true) 47,⟨some 49,none,.bslc 2 1 3 9 [.str []] [(0,1),(1,1),(2,1)],[.c (.str [100,101,117,115]),.c (.str [101,115,
 116]),.c (.str [98,111,110,117,115])]⟩,O2 50 (.call 36 true) 48 49,MV 51 50,MG 52 51 true 5,P1 53 51 true (.call 37 true) 52,⟨some 54,some (51,true),.bslc 3 1 2 9
 [.str []] [(0,1),(1,1)],[.c (.str [100,101,117,115]),.c (.str [98,111,110,117,115])]⟩,P2 55 51 true (.call 36 true) 53 54,PF 56 51 55,MV 57 56,MG 58 57 true 7,P1
 59 57 true (.call 37 true) 58,⟨some 60,some (57,true),.bslc 4 1 5 9 [.str []] [(0,1),(1,1),(2,1),(3,1),(4,1)],[.c (.str [100,101,117,115]),.c (.str [118,101,
 114,101]),.c (.str [44]),.c (.str [101,116]),.c (.str [98,111,110,117,115])]⟩,P2 61 57 true (.call 36 true) 59 60,PF 62 57 61,MV 63 62,MG 64 63 true 7,PC 65 63 true
 (.idxA 7) 64 (i6 2),P1 66 63 true (.fldA 4) 65,P1 67 63 true (.load none) 66,PF 68 63 67,MV 69 68,MG 70 69 true 7,PC 71 69 true (.idxA 7) 70 (i6 3),P1 72 69 true (.fldA 4)
 71,P1 73 69 true (.load none) 72,P1 74 69 true (.un UnOp.not) 73,PF 75 69 74,MV 0 75]).seq
 C.ret)))))))
theorem qCT:qL Tryz.prog 40 76 5 [RV.tmp 0] qEc:=fi Tryz.f40 [24,32,49,54,60] qun []
end
section
open Go Go.Proofs AF HY LN
namespace RC
theorem qFb(a:Cq)(h:List AObj)(hb:CqB a):ACalls Tryz.prog 46 [.agg (cqC a)] h (.bool (quc a)) h:=by
 have c1:=fun h=>qE7 a.x h hb.x
 have c2:=fun h=>qE8 a.l h hb.l
 have c3:=fun h=>qDe a.d h hb.d
 unfold quc;cases e1:qua a.x with
 |true=>
  rw[e1]at c1;unfold coC at c1;refine acO qpR ?_;simp (disch:=omega) only[qx7,cqC,go_sem]
  repeat' first
   |(refine qj ( .bool false) ?_;simp (disch:=omega) only[go_sem])
   |(refine cA (c1 _) flk ?_;simp (disch:=omega) only[go_sem])
   |(apply qb;exact rvk;simp only[go_sem];exact qi)
 |false=>
  rw[e1]at c1;unfold coC at c1;cases e2:qub a.l with
  |true=>
   rw[e2]at c2;refine acO qpR ?_;simp (disch:=omega) only[qx7,cqC,go_sem]
   repeat' first
    |(refine qj ( .bool false) ?_;simp (disch:=omega) only[go_sem])
    |((first|refine cA (c1 _) ?_ ?_|refine cG (fun e=>c2 _) ?_ ?_);exact flk;simp (disch:=omega) only[go_sem])
    |(apply qb;exact rvk;simp only[go_sem];exact qi)
  |false=>
   rw[e2]at c2;cases e3:qud a.d with
   |true=>
    rw[e3]at c3;refine acO qpR ?_;simp (disch:=omega) only[qx7,cqC,go_sem]
    repeat' first
     |((first|refine cA (c1 _) ?_ ?_|refine cG (fun e=>c2 _) ?_ ?_|refine cG (fun e=>c3 _) ?_ ?_);exact flk;simp (disch:=omega) only[go_sem])
     |(apply qb;exact rvk;simp only[go_sem];exact qi)
   |false=>
    rw[e3]at c3;refine acO qpR ?_;simp (disch:=omega) only[qx7,cqC,go_sem]
    repeat' first
     |((first|refine cA (c1 _) ?_ ?_|refine cG (fun e=>c2 _) ?_ ?_|refine cG (fun e=>c3 _) ?_ ?_);exact flk;simp (disch:=omega) only[go_sem])
     |(apply qb;exact rvk;simp only[go_sem];exact qi)
def mdB(a:Cq):Bool:= !quc a&&decide (esE a.x a.l a.d a.lead=0)
def mdR(a:Cq):List Wd:=if quc a=true then [] else esR a.x a.l a.d a.lead
theorem qCJ{x:Co}{l:List Un}{d:List Dc}{s:Int}(h:coE x≠0):esE x l d s≠0:=by
 have:vaE x l=1:=by unfold vaE;rw[ipo h]
 unfold esE;rw[this,ipo (by decide)];decide
theorem esA(a:Cq)(h:List AObj)(z:CqS a)(hp:kN SG h)(hg:zR h frmN frmC):ACalls Tryz.prog 25 [.agg (coC a.x),zO a.l,kO a.d,.int .i64 a.lead] h (.tup [qav (esR a.x a.l a.d a.lead),.int .i64 (esE a.x a.l a.d a.lead)]) h:=
 qyv a.x a.l a.d a.lead h z.x z.l hp hg (by have:=z.d;omega) (fun o ho=>by have:=z.t o ho;omega) (z.lim _)
theorem qDm(a:Cq)(h:List AObj)(hb:CqB a)(hp:kN SG h)(hg:zR h frmN frmC):ACalls Tryz.prog 39 [.agg (cqC a)] h (.tup [qav (mdR a),.bool (mdB a)]) h:=by
 have c1:=fun h=>qFb a h hb
 unfold mdB mdR;cases e1:quc a with
 |true=>
  rw[e1]at c1;refine acO qpQ ?_;simp (disch:=omega) only[qx6,cqC,go_sem]
  repeat' first
   |(refine qj ( .int .i64 0) ?_;simp (disch:=omega) only[go_sem])
   |(refine cA (c1 _) flk ?_;simp (disch:=omega) only[go_sem])
   |(apply qb;exact rvk;simp only[go_sem])
  exact VLe.tup ⟨ze,qi,trivial⟩
 |false=>
  rw[e1]at c1;have z:=qsr e1;have c2:=fun l'=>coR a.x (h++l') z.x (hp.app l')
  have c3:=fun l'=>esA a (h++l') z (hp.app l') hg.app
  rw[ine (by simp)]
  by_cases e2:coE a.x=0
  ·rw[e2]at c2;obtain⟨E,hE⟩: ∃E,E=esE a.x a.l a.d a.lead:=⟨_,rfl⟩
   simp only[←hE]at c3 ⊢;unfold cqC at c1;unfold coC at c2 c3
   by_cases e3:E=0
   ·have k3:(E=0)=True:=eqt e3;rw[dqt e3];refine acO qpQ ?_;simp (disch:=omega) only[qx6,cqC,go_sem]
    repeat' first
     |((first|refine cA (c1 _) ?_ ?_|refine cG (fun e=>c2 _) ?_ ?_|refine cA (c3 _) ?_ ?_);exact flk;simp (disch:=omega) only[k3,go_sem])
     |(apply qb;exact rvk;simp only[go_sem];exact qi)
     |with_reducible apply aiA
    all_goals try exact clz
   ·have k3:(E=0)=False:=eqf e3;rw[dqf e3];refine acO qpQ ?_;simp (disch:=omega) only[qx6,cqC,go_sem]
    repeat' first
     |((first|refine cA (c1 _) ?_ ?_|refine cG (fun e=>c2 _) ?_ ?_|refine cA (c3 _) ?_ ?_);exact flk;simp (disch:=omega) only[k3,go_sem])
     |(apply qb;exact rvk;simp only[go_sem];exact qi)
     |with_reducible apply aiA
    all_goals try exact clz
  ·have k2:(coE a.x=0)=False:=eqf e2;have hn:=qCJ (l:=a.l) (d:=a.d) (s:=a.lead) e2;rw[dqf hn];unfold esR;rw[ine hn];obtain⟨E,hE⟩: ∃E,E=coE a.x:=⟨_,rfl⟩
   simp only[←hE]at c2 k2;unfold cqC at c1;unfold coC at c2;refine acO qpQ ?_;simp (disch:=omega) only[qx6,cqC,go_sem]
   repeat' first
    |((first|refine cA (c1 _) ?_ ?_|refine cG (fun e=>c2 _) ?_ ?_);exact flk;simp (disch:=omega) only[k2,go_sem])
    |(apply qb;exact rvk;simp only[go_sem])
   exact VLe.tup ⟨ze,qi,trivial⟩
theorem qDN(s:Str)(h:List AObj):ACalls Tryz.prog 144 [.str s] h (.agg (tkC (tkS s))) h:=by
 unfold tkS tkC;refine acO qyP ?_;simp (disch:=omega) only[qxf,go_sem]
 repeat' first
  |(apply qb;exact rvk;simp only[go_sem];exact qi)
theorem qDK(h:List AObj):ACalls Tryz.prog 92 [] h (.agg (coC xCo)) h:=by
 have c1:=fun s h=>qDN s h
 unfold tkC tkS at c1;refine acO qC5 ?_;simp (disch:=omega) only[qEm,go_sem]
 repeat' first
  |((first|refine cA (c1 qcy _) ?_ ?_|refine cA (c1 qwE _) ?_ ?_|refine cA (c1 qas _) ?_ ?_);exact flk;simp (disch:=omega) only[go_sem])
  |(apply qb;exact rvk;simp only[go_sem])
 refine VLe.agg ⟨qi,vl2 ⟨ie rfl,trivial⟩ ⟨ie rfl,trivial⟩,vl2 ⟨?a1,trivial⟩ ⟨?a2,trivial⟩,vl3 ⟨?a3,trivial⟩ ⟨?a4,trivial⟩ ⟨?a5,trivial⟩,trivial⟩
 case a1=>simp only[go_sem];exact il3 rfl rfl rfl
 case a2=>simp only[go_sem];exact il2 rfl rfl
 case a3=>simp only[go_sem];exact il2 rfl rfl
 case a4=>simp only[go_sem];exact il2 rfl rfl
 case a5=>simp only[go_sem];exact il2 rfl rfl
def qu9:Str:= [118,101,114,101]
def qD1:Dc:=⟨3,[65],1,[]⟩
def qD2:Dc:=⟨2,[65],1,[118,101,114,101,44,32,101,116]⟩
def qA:List Wd:= [⟨qcy,0,-1,-1,false,false,[]⟩,⟨qwE,1,0,-1,false,false,[]⟩,⟨qas,2,-1,-1,false,false,[]⟩]
def qB:List Wd:= [⟨qcy,0,-1,-1,false,false,[]⟩,⟨qas,2,-1,-1,false,false,[]⟩]
def qC:List Wd:= [⟨qcy,0,-1,-1,false,false,[]⟩,⟨qu9,1,0,0,false,false,[]⟩,⟨[44],1,0,0,true,false,[]⟩,⟨[101,116],1,0,0,false,false,[]⟩,⟨qas,2,-1,-1,false,false,[]⟩]
theorem q_u:utR xCo=xUn∧utE xCo=0:=by decide+kernel
theorem q_a:esE xCo xUn [] 0=0∧esR xCo xUn [] 0=qA:=by decide+kernel
theorem q_b:esE xCo xUn [qD1] 0=0∧esR xCo xUn [qD1] 0=qB:=by decide+kernel
theorem q_c:esE xCo xUn [qD2] 0=0∧esR xCo xUn [qD2] 0=qC:=by decide+kernel
theorem qB5(h:List AObj)(hp:kN SG h)(hg:zR h frmN frmC):ACalls Tryz.prog 40 [] h (.bool true) h:=by
 have c1:=fun h=>qDK h
 have zs:qcT xCo:=(qsp (by decide+kernel)).1;have zu:qf7 xUn:=(qsq (by decide+kernel)).1;have c2:=fun l'=>qDQ xCo (h++l') zs (hp.app l')
 rw[q_u.1,q_u.2]at c2;have hb: ∀d:List Dc,(∀o∈d,o.txt.length≤1000)→vaE xCo xUn=0→(rwA xCo xUn d (0:Int).toNat).length≤1000000000:=fun d ht g=>qnj (by decide) ht g
 have t1: ∀o∈ [qD1],o.txt.length≤1000:=by decide
 have t2: ∀o∈ [qD2],o.txt.length≤1000:=by decide
 have c3:=fun l'=>(qyv xCo xUn [] 0 (h++l') zs zu (hp.app l') hg.app (by simp) (by simp) (hb [] (by simp))).le (args:= [.agg (coC xCo),zO xUn,.nl,.int .i64 0]) ⟨qi,qi,ze,qi,trivial⟩ (qi)
 have c4:=fun l'=>qyv xCo xUn [qD1] 0 (h++l') zs zu (hp.app l') hg.app (by simp) t1 (hb _ t1)
 have c5:=fun l'=>qyv xCo xUn [qD2] 0 (h++l') zs zu (hp.app l') hg.app (by simp) t2 (hb _ t2)
 rw[q_a.1,q_a.2]at c3;rw[q_b.1,q_b.2]at c4;rw[q_c.1,q_c.2]at c5;have hc0:([h.length]:List Nat).contains h.length=true:=by simp
 have hc1:([h.length+1]:List Nat).contains (h.length+1)=true:=by simp
 unfold coC at c1 c2 c3;refine acO qCT ?_;simp (disch:=omega) only[qEc,go_sem]
 repeat' first
  |((first|refine cA (c1 _) ?_ ?_|refine cA (c2 _) ?_ ?_|refine cA (c3 _) ?_ ?_);exact flk;simp (disch:=omega) only[go_sem])
  |with_reducible apply aiA
 all_goals try exact clz
 refine qz (r:= .tup [qav qB,.int .i64 0]) (h':=h++ [.emp 2,.emp 0,.emp 0,.emp 0,.emp 0]) (ACalls.frzd [h.length] (by simp only[qaM,go_sem]) ?c) (by exact flk) ?_
 case c=>
  simp only[qdu,go_sem];refine ACalls.le (c4 _) ?_ (qi);simp only[go_sem,coC,hc0,if_true];exact⟨qi,qi,VLe.sl_eq rfl (fun i hi=>by
   obtain rfl:i=0:=by omega
   rfl),qi,trivial⟩
 simp (disch:=omega) only[go_sem]
 repeat' first
  |(refine cA (c1 _) flk ?_;simp (disch:=omega) only[go_sem])
  |with_reducible apply aiA
 all_goals try exact clz
 refine qz (r:= .tup [qav qC,.int .i64 0]) (h':=h++ [.emp 2,.emp 2,.emp 0,.emp 0,.emp 0]) (ACalls.frzd [h.length+1] (by simp only[qaM,go_sem]) ?d) (by exact flk) ?_
 case d=>
  simp only[qdu,go_sem];refine ACalls.le (c5 _) ?_ (qi);simp only[go_sem,coC,hc1,if_true];exact⟨qi,qi,VLe.sl_eq rfl (fun i hi=>by
   obtain rfl:i=0:=by omega
   rfl),qi,trivial⟩
 have zm:valP (.mm true) [.int .i64 0,.int .i64 0,.int .i64 0,.int .i64 0]= .int .i64 0:=rfl;have zn:okP (.mm true) [.int .i64 0,.int .i64 0,.int .i64 0,.int .i64 0]=True:=eqt (by simp[okP,qc7]);have zA: ∀g,valL g .len [qav qC]= .int .i64 5:=fun _=>rfl
 have zB: ∀g,okL g .len [qav qC]=True:=fun _=>eqt trivial
 have w1:=fun h=>qwq qA h (by decide)
 have w2:=fun h=>qwq qB h (by decide)
 have w3:=fun h=>qwq qC h (by decide)
 have e1:qn2 qA= [qcy,qwE,qas]:=rfl;have e2:qn2 qB= [qcy,qas]:=rfl;have e3:qn2 qC= [qcy,qu9,[44],[101,116],qas]:=rfl;rw[e1]at w1;rw[e2]at w2;rw[e3]at w3;simp (disch:=omega) only[zm,zn,zA,zB,go_sem]
 repeat' first
  |(refine cA (w1 _) flk ?_;simp (disch:=omega) only[go_sem])
  |with_reducible apply aiA
 all_goals try exact clz
 refine cA (qCH (L:= [qcy,qwE,qas]) ?v1 (by decide)) (by exact flk) ?_
 case v1=>
  simp only[List.map,go_sem];exact⟨qi,VLe.sl_eq rfl (fun i hi=>by
   match i,hi with
   |0,_=>rfl
   |1,_=>rfl
   |2,_=>rfl
   |n+3,hi=>exact absurd hi om),trivial⟩
 simp (disch:=omega) only[go_sem]
 repeat' first
  |(refine cG (fun e=>w2 _) flk ?_;simp (disch:=omega) only[go_sem])
 refine cG (fun _=>qCH (L:= [qcy,qas]) ?v2 (by decide)) (fun _=>by exact flk) ?_
 case v2=>
  simp only[List.map,go_sem];exact⟨qi,VLe.sl_eq rfl (fun i hi=>by
   match i,hi with
   |0,_=>rfl
   |1,_=>rfl
   |n+2,hi=>exact absurd hi om),trivial⟩
 simp (disch:=omega) only[go_sem]
 repeat' first
  |(refine cG (fun e=>w3 _) flk ?_;simp (disch:=omega) only[go_sem])
 refine cG (fun _=>qCH (L:= [qcy,qu9,[44],[101,116],qas]) ?v3 (by decide)) (fun _=>by exact flk) ?_
 case v3=>
  simp only[List.map,go_sem];exact⟨qi,VLe.sl_eq rfl (fun i hi=>by
   match i,hi with
   |0,_=>rfl
   |1,_=>rfl
   |2,_=>rfl
   |3,_=>rfl
   |4,_=>rfl
   |n+5,hi=>exact absurd hi om),trivial⟩
 have zq:qav qC= .sl 5 fun i=>wdC (qC.getD i default):=rfl
 have g2:qC.getD 2 default=⟨[44],1,0,0,true,false,[]⟩:=rfl;have g3:qC.getD 3 default=⟨[101,116],1,0,0,false,false,[]⟩:=rfl;simp (disch:=omega) only[zq,wdC,go_sem]
 repeat' first
  |(apply qb;exact rvk;simp only[go_sem];exact qi)
  |with_reducible first|intro _|apply aiA
 all_goals try exact clz
structure Ld where
 s:Int
 t:Str
 k:Int
def ldD(x:Co)(l:List Un)(d:List Dc)(s:Int)(k:Nat):Nat→Ld
 |0=>⟨s,[],1⟩
 |n+1=>if kJ x l (d.getD n default)=k then ⟨zH x (d.getD n default).sig,(d.getD n default).txt,(d.getD n default).kind⟩ else ldD x l d s k n
theorem qAm(x:Co)(l:List Un)(d:List Dc)(s:Int)(k:Nat): ∀n,ldD x l d s k n=
  if qaw x l d k n<0 then ⟨s,[],1⟩ else ⟨zH x (d.getD (qaw x l d k n).toNat default).sig,(d.getD (qaw x l d k n).toNat default).txt,(d.getD (qaw x l d k n).toNat default).kind⟩:=by
 intro n
 induction n with
 |zero=>rfl
 |succ n ih=>
  unfold ldD qaw
  by_cases g:kJ x l (d.getD n default)=k
  ·rw[ipo g,ipo g,ine om,itn]
  ·rw[ine g,ine g,ih]
theorem qAy{x:Co}{l:List Un}{d:List Dc}{s:Nat}(h:qdn x l d s){k:Nat}(hk:k<l.length):
  (1≤(ldD x l d s k d.length).k∧(ldD x l d s k d.length).k≤3)∧(0≤(ldD x l d s k d.length).s∧(ldD x l d s k d.length).s<x.sig.length)∧
  ((ldD x l d s k d.length).k=1→owG (bsW (rwA x l d s)) k (bsW (rwA x l d s)).length=rdG x (ldD x l d s k d.length).s.toNat (frN l k) (toN l k-frN l k))∧
  ((ldD x l d s k d.length).k=3→owG (bsW (rwA x l d s)) k (bsW (rwA x l d s)).length= [])∧
  ((ldD x l d s k d.length).k=2→owG (bsW (rwA x l d s)) k (bsW (rwA x l d s)).length=(qd5 (ldD x l d s k d.length).t).map Tk.text∧qd5 (ldD x l d s k d.length).t≠ []):=by
 rw[qAx h hk,qq7,qAm];have hs:=h.sl
 by_cases g:qaw x l d k d.length<0
 ·rw[ipo g,ipo g];refine⟨⟨Int.le_refl _,by show (1:Int)≤3;omega⟩,⟨by show 0≤(s:Int);omega,by show (s:Int)<_;omega⟩,fun _=>rfl,fun e=> ?_,fun e=> ?_⟩
  ·have e:(1:Int)=3:=e;omega
  ·have e:(1:Int)=2:=e;omega
 ·rw[ine g,ine g];obtain⟨c1,c2,c3⟩:=qmd h g;obtain⟨o,ho⟩: ∃o,o=d.getD (qaw x l d k d.length).toNat default:=⟨_,rfl⟩
  rw[←ho]at c2 ⊢;obtain⟨p1,p2,_,p4,_,p6⟩:=qa8 c2;obtain⟨t1,t2,_⟩:=qfY p4;refine⟨⟨p1,p2⟩,⟨t1,by show zH x o.sig<_;omega⟩,fun e=> ?_,fun e=> ?_,fun e=> ?_⟩
  ·have e:o.kind=1:=e;rw[ipo e]
  ·have e:o.kind=3:=e;rw[ine om,ine om]
  ·have e:o.kind=2:=e;rw[ine om,ipo e];exact⟨rfl,(qhl p6 e).2.2.1⟩
theorem qlg{x:Co}{l:List Un}{d:List Dc}{s:Nat}(h:qdn x l d s){k:Nat}(hk:k<l.length)(hr:chK l (bsW (rwA x l d s)) k<0):(ldD x l d s k d.length).k≠1:=by
 intro e;obtain⟨_,⟨s0,s1⟩,h1,_,_⟩:=qAy h hk;unfold chK at hr;rw[h1 e]at hr;obtain⟨j,_,_,_,h5⟩:=qAL h.us hk (s:=(ldD x l d s k d.length).s.toNat) om;omega
theorem qdn.esE{x:Co}{l:List Un}{d:List Dc}{s:Nat}(h:qdn x l d s):esE x l d s=0:=by
 have h1:vaE x l=0:=by
  unfold vaE;rw[ine (fun hc=>hc h.ca),ine];unfold rgB;rw[h.us,h.cv];simp
 have h2:qbZ x l d=0:=by
  unfold qbZ;rw[ine (by have:=h.dl;omega)];exact jQ.2 h.pl
 have:=h.sl
 have:=h.ln
 unfold RC.esE;rw[h1,h2,ine (by simp),ine om,ine (by simp),ine (by rw[itn];omega)]
end RC
end
section
open Go Go.Proofs AF
end
section
open Go Go.Proofs AF HY LN
namespace RC
theorem qDn{a:Cq}(h:mdB a=true):CqS a∧0≤a.lead∧qdn a.x a.l a.d a.lead.toNat∧mdR a=bsW (rwA a.x a.l a.d a.lead.toNat):=by
 unfold mdB at h;rw[Bool.and_eq_true,Bool.not_eq_true',decide_eq_true_iff]at h;obtain⟨h1,h2⟩:=h;obtain⟨h3,h4⟩:=qr7 h2;refine⟨qsr h1,h3,h4,?_⟩;unfold mdR;rw[ine (by simp[h1])];unfold esR;rw[ipo h2]
end RC
end
section
open Go Go.Proofs AF
def ql3:List Nat:= []
def qCa:C:=
 ((C.ops [O1 1 (.box 0 75) 0,MC 2 (.bool false)]).seq ((C.ops [O1 17 (.load (some 7)) 1,O1 18 (.call 39 true) 17,MV 16 18,O1 19 (.ext 0) 16,O1 20 (.ext 1) 16,MV 3 19,MV 4
 20]).seq (((C.ops [MV 21 4,O1 22 (.un UnOp.not) 21]).seq (C.cond (.t 22) ((C.ops [ON 23 (.call 40 true) [],MV 2 23]).seq C.ret) C.skip)).seq ((C.ops [O1 25 (.fldA 0) 1,O1 26
 (.load (some 4)) 25,O1 27 (.fldA 4) 1,LD 28 27,O1 29 (.fldA 5) 1,LD 30 29,O1 31 (.fldA 6) 1,LD 32 31,ON 33 (.call 48 true) [.t 26,.t 28,.t 30,.t 32],MV 24 33,O1 34
 (.ext 0) 24,O1 35 (.ext 1) 24,MV 5 34,MV 6 35]).seq (((C.ops [MV 36 6,BC 37 .neq 36 (i6 0),MV 38 37,MG 39 38 false 5,P1 40 38 false .len 39,P1 41 38 false (.fldA 4) 1,P1
 42 38 false (.load none) 41,P1 43 38 false .len 42,P2 44 38 false (.bin .neq) 40 43,PT 45 38 44]).seq (C.cond (.t 45) ((C.ops [MC 2 (.bool false)]).seq C.ret) C.skip)).seq
 (((C.ops [MV 46 5,O1 47 .len 46,MC 48 (i6 0)]).seq (C.block 0 ((C.ops [BI 49 .lss 48 47]).seq ((C.cond (.t 49) C.skip (C.exit 0)).seq ((C.block 1 ((C.ops [MV 50 48,O2 51 (.idxA
 1) 46 48,LD 52 51,MV 7 50,MV 8 52]).seq ((C.ops [O1 54 (.fldA 0) 1,O1 55 (.load (some 4)) 54,O1 56 (.fldA 4) 1,LD 57 56,MV 58 3,MV 59 7,ON 60 (.call 51 true) [.t 55,.t
 57,.t 58,.t 59],MV 53 60,O1 61 (.ext 0) 53,O1 62 (.ext 1) 53,⟨some 9,none,.alloc 1 22 [.nl],[]⟩,ST 1 9 61,MV 10 62]).seq (((C.ops [MV 63 10,BC 64 .neq 63 (i6 0),MV 65
 64,MG 66 65 false 8,PC 67 65 false (.bin .lss) 66 (i6 (-1)),PT 68 65 67,MV 69 68,MG 70 69 false 8,P1 71 69 false (.fldA 4) 1,P1 72 69 false (.load none) 71,MG 73 69 false
 7,P2 74 69 false (.idxA 3) 72 73,P1 75 69 false (.fldA 2) 74,P1 76 69 false (.load none) 75,P1 77 69 false .len 76,P2 78 69 false (.bin .geq) 70 77,PT 79 69 78]).seq (C.cond
 (.t 79) ((C.ops [MC 2 (.bool false)]).seq C.ret) C.skip)).seq (((C.ops [MV 80 8,BC 81 .geq 80 (i6 0),MV 82 81,P1 83 82 true (.load none) 9,P1 84 82 true (.fldA 4) 1,P1 85 82
 true (.load none) 84,MG 86 82 true 7,P2 87 82 true (.idxA 3) 85 86,P1 88 82 true (.fldA 2) 87,P1 89 82 true (.load none) 88,MG 90 82 true 8,P2 91 82 true (.idxA 2) 89 90,P1
 92 82 true (.fldA 0) 91,P1 93 82 true (.load none) 92,P2 94 82 true (.call 36 true) 83 93,P1 95 82 true (.un UnOp.not) 94,PF 96 82 95,MV 97 96,MG 98 97 false 8,PC 99 97
 false (.bin .lss) 98 (i6 0),MG 100 97 false 99,P1 101 100 true (.fldA 4) 1,P1 102 100 true (.load none) 101,MG 103 100 true 7,P2 104 100 true (.idxA 3) 102 103,P1 105 100
 true (.fldA 2) 104,P1 106 100 true (.load none) 105,P1 107 100 true (.mkfn (Fn.func 53) 0) 9,P2 108 100 true (.call 52 true) 106 107,QF 109 97 false 100 108,PT 110 97
 109]).seq (C.cond (.t 110) ((C.ops [MC 2 (.bool false)]).seq C.ret) C.skip)).seq ((C.ops [MC 11 (i6 1)]).seq (((C.ops [O1 111 (.fldA 5) 1,LD 112 111,O1 113 .len 112,MC 114 (i6
 0)]).seq (C.block 2 ((C.ops [BI 115 .lss 114 113]).seq ((C.cond (.t 115) C.skip (C.exit 2)).seq ((C.block 3 ((C.ops [O2 116 (.idxA 4) 112 114,O1 117 (.load (some 4)) 116,⟨some
 13,none,.alloc 2 43 [i6 0,.str [],i6 0,.str []],[]⟩,ST 4 13 117]).seq ((C.ops [O1 119 (.fldA 0) 1,O1 120 (.load (some 4)) 119,O1 121 (.fldA 4) 1,LD 122 121,O1 123 (.load
 (some 4)) 13,ON 124 (.call 20 true) [.t 120,.t 122,.t 123],MV 118 124,O1 125 (.ext 0) 118,O1 126 (.ext 1) 118,MV 14 125,MV 15 126]).seq ((C.ops [MV 127 15,BC 128 .eql 127
 (i6 0),MV 129 128,MG 130 129 true 14,MG 131 129 true 7,P2 132 129 true (.bin .eql) 130 131,PF 133 129 132]).seq (C.cond (.t 133) (C.ops [O1 134 (.fldA 0) 13,LD 135 134,MV 11
 135]) C.skip))))).seq (C.ops [BC 136 .add 114 (i6 1),MV 114 136])))).loop)).seq ((C.ops [MV 137 8,BC 138 .lss 137 (i6 0),MV 139 138,MG 140 139 true 11,PC 141 139 true (.bin
 .eql) 140 (i6 1),PF 142 139 141]).seq (C.cond (.t 142) ((C.ops [MC 2 (.bool false)]).seq C.ret) C.skip))))))))).seq (C.ops [BC 143 .add 48 (i6 1),MV 48 143])))).loop)).seq
 ((C.ops [ON 144 (.call 40 true) [],MV 2 144]).seq
 C.ret)))))))
theorem qyz:qL Tryz.prog 10 145 3 [RV.tmp 2] qCa:=fi Tryz.f10 [1,9,13] ql3 []
def qEe:C:=
 ((C.ops [O1 2 (.box 0 87) 0,MC 3 (.bool false)]).seq ((C.ops [O1 4 (.fldA 0) 2,LD 5 4,LD 6 1,O2 7 (.call 36 true) 5 6,MV 3 7]).seq
 C.ret))
theorem qCX:qL Tryz.prog 53 8 1 [RV.tmp 3] qEe:=fi Tryz.f53 [2] ql3 []
end
section
open Go Go.Proofs AF HY LN
namespace RC
theorem qES(r:Rd)(own:List Str)(h:List AObj)(h1:r.words.length≤1000000000)(h2:own.length≤1000000000):ACalls Tryz.prog 53 [.agg (rdC r),.ip [strs own]] h (.bool (decide (r.words=own))) h:=by
 have c1:=fun h=>qBV r.words own h h1 h2
 unfold strs at c1;refine acO qCX ?_;simp (disch:=omega) only[qEe,rdC,strs,go_sem]
 repeat' first
  |((first|refine cA (c1 _) ?_ ?_|refine cG (fun e=>c1 _) ?_ ?_|refine cU (fun _=>c1 _) ?_ ?_);exact flk;simp (disch:=omega) only[rdC,strs,go_sem])
  |((first|apply qb|apply qe);exact rvk;simp only[go_sem];first|exact qi|apply qf|apply qd|apply zV|skip)
  |with_reducible first|intro _|apply aiA
 all_goals try exact clz
theorem qCp(L:List Rd)(own:List Str)(k v:Nat)(h:List AObj)(hk:qu k h=some (.mem v 22 [strs own]))(hl:L.length≤1000000000)(hw: ∀j,(L.getD j default).words.length≤1000000000)(ho:own.length≤1000000000)(hno: ∀j,j<L.length→(L.getD j default).words≠own):
  ACalls Tryz.prog 52 [jD L,.fn (.func 53) [] [.op k v 0]] h (.bool false) h:=by
 have hc:=qO hk;have e0:jr (fun j=>decide ((L.getD j default).words=own)) L.length=false:=qt.2 fun j hj=>dqf (hno j hj)
 rw[←e0];unfold jD;refine qww qCW ⟨rfl,rfl⟩ ⟨rfl,rfl⟩ (qen qlM L.length (fun j=>rdC (L.getD j default)) (fun j=> .agg (rdC (L.getD j default))) _ [] [.op k v 0] _ h (fun i _=>⟨rfl,by simp[j8,rdC],rfl,rfl,rfl⟩) (fun i _=> ?_) om);refine ACalls.borrow ?_ rfl;have e:([AV.agg (rdC (L.getD i default))]++ [AV.op k v 0]).map (rei (fun _=>true) h 8)= [.agg (rdC (L.getD i default)),.ip [strs own]]:=by
  simp only[lca,lna,List.map_cons,List.map_nil,rei_op,if_true,hc,ipOf_some,List.drop_zero,rei_agg];rfl
 rw[lna,e];exact qES _ own _ (hw i) ho
theorem qyu{x:Co}{l:List Un}{d:List Dc}{s:Nat}(h:qdn x l d s){j:Nat}(hj:j<d.length):qrF x l (d.getD j default)=0∧qBm x l (d.getD j default)=kJ x l (d.getD j default):=by
 have h1:vaE x l=0:=by
  unfold vaE;rw[ine (fun hc=>hc h.ca),ine];unfold rgB;rw[h.us,h.cv];simp
 have h2:qrF x l (d.getD j default)=0:=by unfold qrF;rw[ine (by simp[h1])];exact h.pl j hj
 exact⟨h2,by unfold qBm;rw[ipo h2]⟩
theorem qdn.va{x:Co}{l:List Un}{d:List Dc}{s:Nat}(h:qdn x l d s):vaE x l=0:=by
 unfold vaE;rw[ine (fun hc=>hc h.ca),ine];unfold rgB;rw[h.us,h.cv];simp
theorem qAl(a:Cq)(h:List AObj)(hp:kN SG h)(hg:zR h frmN frmC)(hb:CqB a):ACalls Tryz.prog 10 [.agg (cqC a)] h (.bool true) h:=by
 have c1:=fun l'=>qDm a (h++l') hb (hp.app l') hg.app
 have c2:=fun l'=>qB5 (h++l') (hp.app l') hg.app
 obtain⟨B,hB⟩: ∃B,B=mdB a:=⟨_,rfl⟩
 obtain⟨R,hR⟩: ∃R,R=mdR a:=⟨_,rfl⟩
 simp only[←hB,←hR]at c1;unfold cqC at c1;cases B with
 |false=>
  refine acO qyz ?_;simp (disch:=omega) only[qCa,cqC,go_sem]
  repeat' first
   |((first|refine cA (c1 _) ?_ ?_|refine cG (fun e=>c1 _) ?_ ?_|refine cA (c2 _) ?_ ?_|refine cG (fun e=>c2 _) ?_ ?_|refine cU (fun _=>c1 _) ?_ ?_|refine cU (fun _=>c2 _) ?_ ?_);exact flk;simp (disch:=omega) only[cqC,go_sem])
   |((first|apply qb|apply qe);exact rvk;simp only[go_sem];first|exact qi|apply qf|apply qd|apply zV|skip)
   |with_reducible first|intro _|apply aiA
  all_goals try exact clz
 |true=>
 obtain⟨z,e0,E,hRe⟩:=qDn hB.symm;rw[←hR]at hRe;have zx:=z.x;have zu:=z.l;have zd:=z.d;have zt:=z.t;obtain⟨s,hs⟩: ∃s:Nat,a.lead=s:=⟨a.lead.toNat,om⟩
 have hlim:=z.lim a.lead.toNat;rw[hs]at c1 hlim;rw[hs,itn]at E hRe;have hln:=E.ln;have hva:=E.va;have hlen:R.length=(rwA a.x a.l a.d s).length:=by rw[hRe,kV]
 have c3:=fun l'=>qCs a.x a.l a.d s (h++l') zx zu (hp.app l') hg.app om (fun o ho=>by have:=zt o ho;omega) hlim
 have eE:esE a.x a.l a.d s=0:=E.esE;have eR:esR a.x a.l a.d s=R:=by unfold esR;rw[ipo eE,itn,hRe]
 obtain⟨C,hC⟩: ∃C,C=chP a.l R a.l.length:=⟨_,rfl⟩
 have eC:chR a.x a.l a.d s=C:=by unfold chR;rw[ipo eE,eR,hC]
 rw[eC,eE]at c3;have hCl:C.length=a.l.length:=by rw[hC,qle]
 have FC: ∀i,i<a.l.length→C.getD i 0=chK a.l R i:=fun i hi=>by
  rw[hC];unfold chP;rw[gdqA,List.getElem?_map,List.getElem?_range hi];rfl
 have FL: ∀i,i<a.l.length→chK a.l R i<0→(ldD a.x a.l a.d s i a.d.length).k≠1:=fun i hi hc=>by rw[hRe]at hc;exact qlg E hi hc
 have FU:=fun j hj=>qyu E (j:=j) hj
 have zl1: ∀g,valL g .len [zO a.l]= .int .i64 a.l.length:=fun _=>rfl
 have zl2: ∀g,okL g .len [zO a.l]=True:=fun _=>eqt trivial
 have zC1: ∀g,valL g .len [qF C]= .int .i64 a.l.length:=fun _=>by rw[←hCl];rfl
 have zC2: ∀g,okL g .len [qF C]=True:=fun _=>eqt trivial
 have zD1: ∀g,valL g .len [kO a.d]= .int .i64 a.d.length:=fun _=>rfl
 have zD2: ∀g,okL g .len [kO a.d]=True:=fun _=>eqt trivial
 have qq:((a.l.length:Int)=a.l.length)=True:=eqt rfl;have hll:=zu.n;unfold coC at c3;refine acO qyz ?_;simp (disch:=omega) only[qCa,cqC,hs,go_sem]
 repeat' first
  |((first|refine cA (c1 _) ?_ ?_|refine cG (fun e=>c1 _) ?_ ?_|refine cA (c3 _) ?_ ?_|refine cG (fun e=>c3 _) ?_ ?_|refine cU (fun _=>c1 _) ?_ ?_|refine cU (fun _=>c3 _) ?_ ?_);exact flk;simp (disch:=omega) only[cqC,hs,zl1,zl2,zC1,zC2,qq,go_sem])
  |((first|apply qb|apply qe);exact rvk;simp only[go_sem];first|exact qi|apply qf|apply qd|apply zV|skip)
  |with_reducible first|intro _|apply aiA
 all_goals try exact clz
 have zu0:zO a.l= .sl a.l.length fun i=>unC (a.l.getD i default):=rfl
 have zc0:qF C= .sl C.length fun i=> [.int .i64 (C.getD i 0)]:=rfl
 have zd0:kO a.d= .sl a.d.length fun i=>dcC (a.d.getD i default):=rfl
 refine qr (T:=fun i:Nat×AObj×AObj=>qZ 145 [(1,.op h.length 1 0),(3,qav R),(46,qF C),(47,.int .i64 a.l.length),(48,.int .i64 i.1)])
  (H:=fun i=>h++ [.mem 1 75 [.str a.x.sec,strs a.x.sig,qm a.x.tok,qx a.x.col,zO a.l,kO a.d,.int .i64 (s:Int)],i.2.1,i.2.2])
  (inv:=fun i=>i.1≤a.l.length∧qI [i.2.1] 0=true∧qI [i.2.2] 0=true) (m:=fun i=>a.l.length-i.1) (0,.emp 0,.emp 0) ⟨nzl _,rfl,rfl⟩ (Wk.temps ?_) ?_
 ·(simp only[go_sem,qh,qc,qa,qg];try (repeat' first|(with_reducible apply aiA)|(apply qf;omega)|(apply qd;rfl)|exact qi))
 rintro⟨i,O1,O2⟩ ⟨i1,i2,i3⟩ K hK;simp only at i1 i2 i3 hK;have i2': ∀m,qI (O1::m) 0=true:=fun _=>i2
 have i3': ∀m,qI (O2::m) 0=true:=fun _=>i3
 by_cases hi:i<a.l.length
 case neg=>
  have k1:((i:Int)<a.l.length)=False:=eqf om;simp (disch:=omega) only[k1,go_sem]
  repeat' first
   |((first|refine cA (c2 _) ?_ ?_|refine cG (fun e=>c2 _) ?_ ?_|refine cU (fun _=>c2 _) ?_ ?_);exact flk;simp (disch:=omega) only[k1,go_sem])
   |((first|apply qb|apply qe);exact rvk;simp only[go_sem];first|exact qi|apply qf|apply qd|apply zV|skip)
   |with_reducible first|intro _|apply aiA
  all_goals try exact clz
 have k1:((i:Int)<a.l.length)=True:=eqt om;have k2:((i:Int)<C.length)=True:=eqt om;have k3:(0≤(i:Int))=True:=eqt om;have eCi:=FC i hi;have hFL:=FL i hi;have hol:=qsB R (i:Int) R.length;have c4:=fun l'=>rdD a.x a.l R i (h++l') zx zu om (hp.app l') E.ca hva hi
 have hK0:chK a.l R i=qdp (a.l.getD i default).rds (owG R (i:Int) R.length):=rfl;have hch:=qaV (a.l.getD i default).rds (owG R (i:Int) R.length);have hch1: -1≤qdp (a.l.getD i default).rds (owG R (i:Int) R.length):=by
  unfold qdp;rcases zG (fun j=>decide (owG R (i:Int) R.length=((a.l.getD i default).rds.getD j default).words)) (a.l.getD i default).rds.length with⟨j,_,_,_,h4⟩|⟨_,h4⟩<;>omega
 rw[←hK0]at hch hch1;have hwd:=zu.wd i;have hrd:=zu.rd i;have c6:=fun k v h hk ho hno=>qCp (a.l.getD i default).rds (owG R (i:Int) R.length) k v h hk hrd hwd ho hno
 obtain⟨y,hy⟩: ∃y,y=chK a.l R i:=⟨_,rfl⟩
 rw[←hy]at hch hch1 eCi hFL;obtain⟨W,hW⟩: ∃W,W=owG R (i:Int) R.length:=⟨_,rfl⟩
 simp only[←hW]at c4 c6 hch hol;have c5:=fun h=>eqS W h om
 obtain⟨u,hu⟩: ∃u,u=a.l.getD i default:=⟨_,rfl⟩
 have eu:=hu.symm;simp only[eu]at hch c6 hrd;unfold coC at c4;have zr0:jD u.rds= .sl u.rds.length fun i=>rdC (u.rds.getD i default):=rfl
 have q1:(y< -1)=False:=eqf om;have zq1: ∀g,valL g .len [jD u.rds]= .int .i64 u.rds.length:=fun _=>rfl
 have zq2: ∀g,okL g .len [jD u.rds]=True:=fun _=>eqt trivial
 rcases hch with⟨j,j1,j2,j3⟩|⟨j1,j2⟩
 ·have q2:((u.rds.length:Int)≤y)=False:=eqf om;have q3:(0≤y)=True:=eqt om;have q4:(y<0)=False:=eqf om;have q5:(y<(u.rds.length:Int))=True:=eqt om;have q6:y.toNat=j:=by omega
  simp (disch:=omega) only[zu0,zc0,unC,k1,k2,k3,eu,i2',i3',eCi,go_sem]
  repeat' first
   |(refine qj ( .bool false) ?_;simp (disch:=omega) only[zu0,zc0,zr0,rdC,unC,k1,k2,k3,eu,i2',i3',eCi,q1,q2,q3,q4,q5,q6,j2,zD1,zD2,go_sem])
   |((first|refine cA (c4 _) ?_ ?_|refine cG (fun e=>c4 _) ?_ ?_|refine cA (c5 _) ?_ ?_|refine cG (fun e=>c5 _) ?_ ?_|refine cU (fun _=>c4 _) ?_ ?_|refine cU (fun _=>c5 _) ?_ ?_);exact flk;simp (disch:=omega) only[zu0,zc0,zr0,rdC,unC,k1,k2,k3,eu,i2',i3',eCi,q1,q2,q3,q4,q5,q6,j2,zD1,zD2,go_sem])
   |((first|apply qb|apply qe);exact rvk;simp only[go_sem];first|exact qi|apply qf|apply qd|apply zV|skip)
   |with_reducible first|intro _|apply aiA
  all_goals try exact clz
  refine qr (T:=fun n:Nat×AObj=>qZ 145 [(1,.op h.length 1 0),(3,qav R),(7,.int .i64 i),(8,.int .i64 y),(11,.int .i64 (ldD a.x a.l a.d s i n.1).k),(46,qF C),(47,.int .i64 a.l.length),(48,.int .i64 i),(112,kO a.d),(113,.int .i64 a.d.length),(114,.int .i64 n.1)])
   (H:=fun n=>h++ [.mem 1 75 [.str a.x.sec,strs a.x.sig,qm a.x.tok,qx a.x.col,zO a.l,kO a.d,.int .i64 (s:Int)],.mem (qn (some O1)+1) 22 [strs W],n.2])
   (inv:=fun n=>n.1≤a.d.length∧qI [n.2] 0=true) (m:=fun n=>a.d.length-n.1) (0,O2) ⟨nzl _,i3⟩ (Wk.temps ?_) ?_
  ·(simp only[ldD,go_sem,qh,qc,qa,qg];try (repeat' first|(with_reducible apply aiA)|(apply qf;omega)|(apply qd;rfl)|exact qi))
  rintro⟨n,P⟩ ⟨n1,n2⟩ K2 hK2;simp only at n1 n2 hK2;have n2': ∀m,qI (P::m) 0=true:=fun _=>n2
  by_cases hn:n<a.d.length
  ·have m1:((n:Int)<a.d.length)=True:=eqt om;have c7:=fun l'=>qEF a.x a.l (a.d.getD n default) (h++l') zx zu (hp.app l') hg.app (Nat.le_trans (zt _ (je hn)) om)
   obtain⟨f1,f2⟩:=FU n hn;simp only[f1,f2]at c7;have hld:ldD a.x a.l a.d s i (n+1)=if kJ a.x a.l (a.d.getD n default)=i then ⟨zH a.x (a.d.getD n default).sig,(a.d.getD n default).txt,(a.d.getD n default).kind⟩ else ldD a.x a.l a.d s i n:=rfl
   obtain⟨p,hpp⟩: ∃p,p=kJ a.x a.l (a.d.getD n default):=⟨_,rfl⟩
   simp only[←hpp]at c7 hld;obtain⟨o,ho⟩: ∃o,o=a.d.getD n default:=⟨_,rfl⟩
   have eo:=ho.symm;simp only[eo]at c7 hld;unfold coC dcC at c7
   by_cases e:p=(i:Int)
   ·have m2:(p=(i:Int))=True:=eqt e;rw[ipo e]at hld;simp (disch:=omega) only[zd0,dcC,m1,eo,n2',go_sem]
    repeat' first
     |((first|refine cA (c7 _) ?_ ?_|refine cG (fun e=>c7 _) ?_ ?_|refine cU (fun _=>c7 _) ?_ ?_);exact flk;simp (disch:=omega) only[zd0,dcC,m1,m2,eo,n2',go_sem])
     |((first|apply qb|apply qe);exact rvk;simp only[go_sem];first|exact qi|apply qf|apply qd|apply zV|skip)
     |with_reducible first|intro _|apply aiA
    all_goals try exact clz
    refine hK2 _ _ (n+1,.mem (qn (some P)+1) 43 (dcC o)) ⟨hn,rfl⟩ (by simp only;omega) ?_;simp only[hld,dcC];refine Wk.temps ?_
    (simp only[go_sem,qh,qc,qa,qg];try (repeat' first|(with_reducible apply aiA)|(apply qf;omega)|(apply qd;rfl)|exact qi))
   ·have m2:(p=(i:Int))=False:=eqf e;rw[ine e]at hld;simp (disch:=omega) only[zd0,dcC,m1,eo,n2',go_sem]
    repeat' first
     |((first|refine cA (c7 _) ?_ ?_|refine cG (fun e=>c7 _) ?_ ?_|refine cU (fun _=>c7 _) ?_ ?_);exact flk;simp (disch:=omega) only[zd0,dcC,m1,m2,eo,n2',go_sem])
     |((first|apply qb|apply qe);exact rvk;simp only[go_sem];first|exact qi|apply qf|apply qd|apply zV|skip)
     |with_reducible first|intro _|apply aiA
    all_goals try exact clz
    refine hK2 _ _ (n+1,.mem (qn (some P)+1) 43 (dcC o)) ⟨hn,rfl⟩ (by simp only;omega) ?_;simp only[hld,dcC];refine Wk.temps ?_
    (simp only[go_sem,qh,qc,qa,qg];try (repeat' first|(with_reducible apply aiA)|(apply qf;omega)|(apply qd;rfl)|exact qi))
  have m1:((n:Int)<a.d.length)=False:=eqf om;obtain rfl:n=a.d.length:=by omega
  simp (disch:=omega) only[m1,q4,go_sem]
  repeat' first
   |((first|apply qb|apply qe);exact rvk;simp only[go_sem];first|exact qi|apply qf|apply qd|apply zV|skip)
   |with_reducible first|intro _|apply aiA
  all_goals try exact clz
  refine hK _ _ (i+1,.mem (qn (some O1)+1) 22 [strs W],P) ⟨hi,rfl,n2⟩ (by simp only;omega) ?_;refine Wk.temps ?_
  (simp only[go_sem,qh,qc,qa,qg];try (repeat' first|(with_reducible apply aiA)|(apply qf;omega)|(apply qd;rfl)|exact qi))
 ·have q2:((u.rds.length:Int)≤y)=False:=eqf om;have q3:(0≤y)=False:=eqf om;have q4:(y<0)=True:=eqt om;have m3:((ldD a.x a.l a.d s i a.d.length).k=1)=False:=eqf (hFL om);simp (disch:=omega) only[zu0,zc0,unC,k1,k2,k3,eu,i2',i3',eCi,go_sem]
  repeat' first
   |(refine qj ( .bool false) ?_;simp (disch:=omega) only[zu0,zc0,unC,k1,k2,k3,eu,i2',i3',eCi,q1,q2,q3,q4,zq1,zq2,go_sem])
   |((first|refine cA (c4 _) ?_ ?_|refine cG (fun e=>c4 _) ?_ ?_|refine cU (fun _=>c4 _) ?_ ?_);exact flk;simp (disch:=omega) only[zu0,zc0,unC,k1,k2,k3,eu,i2',i3',eCi,q1,q2,q3,q4,zq1,zq2,go_sem])
   |((first|apply qb|apply qe);exact rvk;simp only[go_sem];first|exact qi|apply qf|apply qd|apply zV|skip)
   |with_reducible first|intro _|apply aiA
  all_goals try exact clz
  refine cG (fun _=>c6 (h.length+1) _ _ ?ka om j1) (fun _=>by exact flk) ?_
  case ka=>simp only[go_sem]
  simp (disch:=omega) only[zD1,zD2,go_sem]
  repeat' first
   |((first|apply qb|apply qe);exact rvk;simp only[go_sem];first|exact qi|apply qf|apply qd|apply zV|skip)
   |with_reducible first|intro _|apply aiA
  all_goals try exact clz
  refine qr (T:=fun n:Nat×AObj=>qZ 145 [(1,.op h.length 1 0),(3,qav R),(7,.int .i64 i),(8,.int .i64 y),(11,.int .i64 (ldD a.x a.l a.d s i n.1).k),(46,qF C),(47,.int .i64 a.l.length),(48,.int .i64 i),(112,kO a.d),(113,.int .i64 a.d.length),(114,.int .i64 n.1)])
   (H:=fun n=>h++ [.mem 1 75 [.str a.x.sec,strs a.x.sig,qm a.x.tok,qx a.x.col,zO a.l,kO a.d,.int .i64 (s:Int)],.mem (qn (some O1)+1) 22 [strs W],n.2])
   (inv:=fun n=>n.1≤a.d.length∧qI [n.2] 0=true) (m:=fun n=>a.d.length-n.1) (0,O2) ⟨nzl _,i3⟩ (Wk.temps ?_) ?_
  ·(simp only[ldD,go_sem,qh,qc,qa,qg];try (repeat' first|(with_reducible apply aiA)|(apply qf;omega)|(apply qd;rfl)|exact qi))
  rintro⟨n,P⟩ ⟨n1,n2⟩ K2 hK2;simp only at n1 n2 hK2;have n2': ∀m,qI (P::m) 0=true:=fun _=>n2
  by_cases hn:n<a.d.length
  ·have m1:((n:Int)<a.d.length)=True:=eqt om;have c7:=fun l'=>qEF a.x a.l (a.d.getD n default) (h++l') zx zu (hp.app l') hg.app (Nat.le_trans (zt _ (je hn)) om)
   obtain⟨f1,f2⟩:=FU n hn;simp only[f1,f2]at c7;have hld:ldD a.x a.l a.d s i (n+1)=if kJ a.x a.l (a.d.getD n default)=i then ⟨zH a.x (a.d.getD n default).sig,(a.d.getD n default).txt,(a.d.getD n default).kind⟩ else ldD a.x a.l a.d s i n:=rfl
   obtain⟨p,hpp⟩: ∃p,p=kJ a.x a.l (a.d.getD n default):=⟨_,rfl⟩
   simp only[←hpp]at c7 hld;obtain⟨o,ho⟩: ∃o,o=a.d.getD n default:=⟨_,rfl⟩
   have eo:=ho.symm;simp only[eo]at c7 hld;unfold coC dcC at c7
   by_cases e:p=(i:Int)
   ·have m2:(p=(i:Int))=True:=eqt e;rw[ipo e]at hld;simp (disch:=omega) only[zd0,dcC,m1,eo,n2',go_sem]
    repeat' first
     |((first|refine cA (c7 _) ?_ ?_|refine cG (fun e=>c7 _) ?_ ?_|refine cU (fun _=>c7 _) ?_ ?_);exact flk;simp (disch:=omega) only[zd0,dcC,m1,m2,eo,n2',go_sem])
     |((first|apply qb|apply qe);exact rvk;simp only[go_sem];first|exact qi|apply qf|apply qd|apply zV|skip)
     |with_reducible first|intro _|apply aiA
    all_goals try exact clz
    refine hK2 _ _ (n+1,.mem (qn (some P)+1) 43 (dcC o)) ⟨hn,rfl⟩ (by simp only;omega) ?_;simp only[hld,dcC];refine Wk.temps ?_
    (simp only[go_sem,qh,qc,qa,qg];try (repeat' first|(with_reducible apply aiA)|(apply qf;omega)|(apply qd;rfl)|exact qi))
   ·have m2:(p=(i:Int))=False:=eqf e;rw[ine e]at hld;simp (disch:=omega) only[zd0,dcC,m1,eo,n2',go_sem]
    repeat' first
     |((first|refine cA (c7 _) ?_ ?_|refine cG (fun e=>c7 _) ?_ ?_|refine cU (fun _=>c7 _) ?_ ?_);exact flk;simp (disch:=omega) only[zd0,dcC,m1,m2,eo,n2',go_sem])
     |((first|apply qb|apply qe);exact rvk;simp only[go_sem];first|exact qi|apply qf|apply qd|apply zV|skip)
     |with_reducible first|intro _|apply aiA
    all_goals try exact clz
    refine hK2 _ _ (n+1,.mem (qn (some P)+1) 43 (dcC o)) ⟨hn,rfl⟩ (by simp only;omega) ?_;simp only[hld,dcC];refine Wk.temps ?_
    (simp only[go_sem,qh,qc,qa,qg];try (repeat' first|(with_reducible apply aiA)|(apply qf;omega)|(apply qd;rfl)|exact qi))
  have m1:((n:Int)<a.d.length)=False:=eqf om;obtain rfl:n=a.d.length:=by omega
  simp (disch:=omega) only[m1,q4,go_sem]
  repeat' first
   |((first|apply qb|apply qe);exact rvk;simp only[go_sem];first|exact qi|apply qf|apply qd|apply zV|skip)
   |with_reducible first|intro _|apply aiA
  all_goals try exact clz
  refine hK _ _ (i+1,.mem (qn (some O1)+1) 22 [strs W],P) ⟨hi,rfl,n2⟩ (by simp only;omega) ?_;refine Wk.temps ?_
  (simp only[go_sem,qh,qc,qa,qg];try (repeat' first|(with_reducible apply aiA)|(apply qf;omega)|(apply qd;rfl)|exact qi))
end RC
end
section
open Go Go.Proofs AF HY Go.ChangeShapes Go.RowKit
namespace LN
theorem qDb : Tryz.prog.globalNamed "internal/strconv.uint64pow10" = some 4 := by kernel_rfl
theorem qDd : Tryz.prog.globalNamed "strconv.ErrSyntax" = some 5 := by kernel_rfl
theorem qDc : Tryz.prog.globalNamed "strconv.ErrRange" = some 6 := by kernel_rfl
theorem qEr : Tryz.prog.globalNamed "apograph/transcript.forms" = some 3 := by kernel_rfl
theorem qqH{w w':World}(h:qsP w)(e:w'.heap[4]? =w.heap[4]?):qsP w':=by
 unfold qsP Lib.TabIs at*;rw[qeU qDb e];exact h
theorem qgP : "*" ++ "errors.errorString" = "*errors.errorString" := by decide
theorem qsH (u : TypeId) (h : Tryz.prog.typeName? 3 u = some "*errors.errorString") : u = 329 :=
 typeName_ptr_named (nm := "errors.errorString") (by rw [qgP]; kernel_rfl) (by kernel_rfl) (by decide) u (by rw [qgP]; exact h)
structure Fr where
 s:List UInt8
 a:Bool
 b:Bool
 c:Bool
def Fr.av(r:Fr):List AV:= [.str r.s,.bool r.a,.bool r.b,.bool r.c]
def Fr.vl(r:Fr):List Value:= [.string ⟨r.s.toArray⟩,.bool r.a,.bool r.b,.bool r.c]
def Fr.da{H:Type}(r:Fr):DataW H:= .agg [.lit (.string r.s),.lit (.bool r.a),.lit (.bool r.b),.lit (.bool r.c)]
def frL:List Fr:= [⟨[],false,false,false⟩,⟨[],true,false,false⟩,⟨[108,98],false,false,false⟩,⟨[112,98],true,false,false⟩,⟨[115,101,99],true,false,false⟩,⟨[118],false,false,false⟩,
 ⟨[103,97,112],false,true,false⟩,⟨[117,110,99,108,101,97,114],false,false,true⟩,⟨[97,100,100],false,true,true⟩,⟨[100,101,108],false,true,true⟩,⟨[97,98],true,false,true⟩,⟨[110,97,109,101],true,false,true⟩]
theorem qz0:RC.frmC=frL.flatMap Fr.av:=rfl
theorem qz1:(YthjkfdakolejgaaGreatDoor.Rows.laid_apograph_transcript_forms:DataW Unit)= .agg (frL.map Fr.da):=rfl
theorem qCN{α β:Type}{f:α→List β}(hf: ∀a,(f a).length=4): ∀(l:List α) (i j:Nat),j<4→(l.flatMap f)[i*4+j]? =(l[i]?).bind fun a=>(f a)[j]? :=by
 intro l
 induction l with
 |nil=>intro i j _;simp
 |cons a l ih=>
  intro i j hj;rw[List.flatMap_cons];cases i with
  |zero=>
   rw[Nat.zero_mul,Nat.zero_add,List.getElem?_append_left (by rw[hf];exact hj)];rfl
  |succ i=>
   rw[List.getElem?_append_right (by rw[hf];omega),hf,show (i+1)*4+j-4=i*4+j by omega,ih i j hj];rfl
theorem qdI:Tryz.prog.cellsOf 300=4:=by kernel_rfl
theorem qgi:Tryz.prog.cellsOf 301=48:=by kernel_rfl
theorem qpf:Tryz.prog.cellsOf 9=1:=by kernel_rfl
theorem qpd:Tryz.prog.cellsOf 4=1:=by kernel_rfl
theorem qAW{H:Type}{enc:TypeId×Value→H}{w:World}{base fuel:Nat}{spare:Nat→Bool}{held:Bool}{cs:List Value}{x:DataW H×List MemPlace}{r:Fr}
  (h:DataW.trod enc Tryz.prog w base spare held fuel 300 cs=some x) (hx:x.1=r.da):cs=r.vl:=by
 obtain⟨xs,n,_,hxe,hl,hxl,hf⟩:=DataW.trod_struct Tryz.underlying300 h;rw[qdI]at hl
 match cs,hl with
 | [v0,v1,v2,v3],_=>
 match xs,hxl with
 | [y0,y1,y2,y3],_=>
  have h0:DataW.trod enc Tryz.prog w base spare held n 9 (([v0,v1,v2,v3].drop 0).take (Tryz.prog.cellsOf 9))= [y0,y1,y2,y3][0]? :=hf 0 _ rfl;have h1:DataW.trod enc Tryz.prog w base spare held n 4 (([v0,v1,v2,v3].drop 1).take (Tryz.prog.cellsOf 4))= [y0,y1,y2,y3][1]? :=hf 1 _ rfl;have h2:DataW.trod enc Tryz.prog w base spare held n 4 (([v0,v1,v2,v3].drop 2).take (Tryz.prog.cellsOf 4))= [y0,y1,y2,y3][2]? :=hf 2 _ rfl;have h3:DataW.trod enc Tryz.prog w base spare held n 4 (([v0,v1,v2,v3].drop 3).take (Tryz.prog.cellsOf 4))= [y0,y1,y2,y3][3]? :=hf 3 _ rfl;rw[qpf]at h0;rw[qpd]at h1 h2 h3;obtain⟨s,e0,x0,_⟩:=DataW.trod_string Tryz.underlying9 h0;obtain⟨b1,e1,x1⟩:=DataW.trod_bool Tryz.underlying4 h1;obtain⟨b2,e2,x2⟩:=DataW.trod_bool Tryz.underlying4 h2;obtain⟨b3,e3,x3⟩:=DataW.trod_bool Tryz.underlying4 h3;have hy:([y0,y1,y2,y3]:List (DataW H×List MemPlace)).map (·.1)= [.lit (.string r.s),.lit (.bool r.a),.lit (.bool r.b),.lit (.bool r.c)]:=by
   have hx:=hxe▸hx;exact DataW.agg.inj hx
  rw[x0,x1,x2,x3]at hy;simp at hy e0 e1 e2 e3;obtain⟨g0,g1,g2,g3⟩:=hy;unfold Fr.vl;subst e0 e1 e2 e3;rw[←g0,g1,g2,g3]
theorem qDa {W : World} {rest : List (String × DataW Unit)} (h : laidMet Tryz.prog (("apograph/transcript.forms", YthjkfdakolejgaaGreatDoor.Rows.laid_apograph_transcript_forms) :: rest) W) : qib 3 RC.frmC W := by
 obtain⟨ps,⟨g',t',cs,fuel,p,q,hg',ht',hvar,hd,_,_⟩,_⟩:=h;obtain rfl:=Option.some.inj (qEr.symm.trans hg');obtain rfl:301=t':=Option.some.inj ((show (Tryz.prog.globals[3]?).map (·.type)=some 301 by kernel_rfl).symm.trans ht');obtain⟨xs,m,_,hxe,hl,hxl,hr⟩:=DataW.trod_array Tryz.underlying301 hd;rw[qgi]at hl;have hxm:xs.map (·.1)=frL.map Fr.da:=by
  have:=congrArg Prod.fst hxe
  rw[qz1]at this;exact (DataW.agg.inj this).symm
 have rows: ∀i r,frL[i]? =some r→(cs.toList.drop (i*4)).take 4=r.vl:=fun i r hi=>by
  have hil:i<12:=(lgs.1 hi).1;have e1:(xs.map (·.1))[i]? =some r.da:=by rw[hxm,List.getElem?_map,hi];rfl
  rw[List.getElem?_map,Option.map_eq_some_iff]at e1;obtain⟨y,hy,hy1⟩:=e1;have h1:=hr i hil;rw[hy,qdI]at h1;exact qAW h1 hy1
 have hv: ∃T fz,W.heap[3]? =some (.cells cs T fz):=by
  unfold World.var? at hvar;rw[qEr]at hvar;simp only[Option.bind_some]at hvar;split at hvar
  ·rename_i c T fz hc;cases hvar;exact⟨_,_,hc⟩
  ·cases hvar
 obtain⟨T,fz,hc⟩:=hv;refine⟨cs,T,fz,hc,?_,?_⟩
 ·have:cs.size=48:=by simpa using hl
  rw[this];exact Nat.le_of_eq rfl
 intro i c x hi hx;have hij:i=i/4*4+i%4:=by omega
 rw[qz0,hij,qCN (fun _=>rfl) frL _ _ (Nat.mod_lt _ (by decide)),Option.bind_eq_some_iff]at hi;obtain⟨r,hr1,hr2⟩:=hi;have h2:=rows _ _ hr1;have h3:r.vl[i%4]? =some x:=by
  rw[←h2,List.getElem?_take,ipo (Nat.mod_lt _ (by decide)),List.getElem?_drop,←hij];simpa using hx
 have h4:i%4<4:=Nat.mod_lt _ (by decide);obtain⟨j,hj⟩: ∃j,j=i%4:=⟨_,rfl⟩
 rw[←hj]at hr2 h3 h4
 match j,h4 with
 |0,_=>cases hr2;cases h3;exact⟨rfl,fun _ _=> .str⟩
 |1,_=>cases hr2;cases h3;exact⟨rfl,fun _ _=> .bool⟩
 |2,_=>cases hr2;cases h3;exact⟨rfl,fun _ _=> .bool⟩
 |3,_=>cases hr2;cases h3;exact⟨rfl,fun _ _=> .bool⟩
theorem qt7{w w':World}(h:qib 3 RC.frmC w)(e:w'.heap[3]? =w.heap[3]?):qib 3 RC.frmC w':=by
 obtain⟨arr,T,fz,h1,h2⟩:=h;exact⟨arr,T,fz,e.trans h1,h2⟩
def qcz:List Nat:= [3,4,5,6]
def qA9(w:World):Prop:=RC.SG w∧qib 3 RC.frmC w
theorem qBa{W:World}(h:laidMet Tryz.prog YthjkfdakolejgaaGreatDoor.Rows.decisionSpacesRow.laid W):qsP W∧qBQ W∧qib 3 RC.frmC W:=by
 have h2:=laidMet.tail (laidMet.tail h);have h3:=laidMet.tail h2;have h4:=laidMet.tail h3;have h5:=laidMet.tail h4;obtain⟨a,s,e1,_⟩:=laid_sentinel (g:=6) (ti:=158) (tp:=329) (te:=331) (ts:=9) h3 qDc (by kernel_rfl) Tryz.underlying158 qsH Tryz.underlying329 Tryz.underlying331 rfl rfl Tryz.underlying9 (by kernel_rfl) (by kernel_rfl);obtain⟨b,t,e2,_⟩:=laid_sentinel (g:=5) (ti:=158) (tp:=329) (te:=331) (ts:=9) h4 qDd (by kernel_rfl) Tryz.underlying158 qsH Tryz.underlying329 Tryz.underlying331 rfl rfl Tryz.underlying9 (by kernel_rfl) (by kernel_rfl);exact⟨Lib.tabIs_of_head (t:=308) (e:=213) (n:=20) qDb (by kernel_rfl) Tryz.underlying308 Tryz.underlying213 (by kernel_rfl) (by kernel_rfl) h2,⟨⟨_,_,e2⟩,_,_,e1⟩,qDa h5⟩
theorem qra{W:World}(h:laidMet Tryz.prog YthjkfdakolejgaaGreatDoor.Rows.decisionSpacesRow.laid W): ∀b,b∈qcz→ ∃arr T fz,W.heap[b]? =some (.cells arr T fz):=by
 intro b hb;obtain⟨h1,⟨⟨_,_,h2⟩,_,_,h3⟩,arr,T,fz,h4,_⟩:=qBa h;have e:b=3∨b=4∨b=5∨b=6:=by simpa[qcz] using hb
 rcases e with rfl|rfl|rfl|rfl
 ·exact⟨_,_,_,h4⟩
 ·exact qdm qDb h1
 ·exact qdm qDd h2
 ·exact qdm qDc h3
theorem qvv{W:World}(h:laidMet Tryz.prog YthjkfdakolejgaaGreatDoor.Rows.decisionSpacesRow.laid W): ∀w':World,(∀b,b∈qcz→w'.heap[b]? =W.heap[b]?)→qA9 w':=by
 intro w' hs;obtain⟨h1,⟨⟨t1,p1,h2⟩,t2,p2,h3⟩,h4⟩:=qBa h;refine⟨⟨qqH h1 (hs 4 (by simp[qcz])),⟨t1,p1,?_⟩,t2,p2,?_⟩,qt7 h4 (hs 3 (by simp[qcz]))⟩
 ·rw[qeU qDd (hs 5 (by simp[qcz]))];exact h2
 ·rw[qeU qDc (hs 6 (by simp[qcz]))];exact h3
theorem qvu:kN RC.SG [.pin qcz qA9]:=⟨0,_,_,rfl,fun _ h=>h.1⟩
theorem qvt:zR [.pin qcz qA9] RC.frmN RC.frmC:=⟨0,_,_,rfl,by simp[qcz],fun _ h=>h.2⟩
end LN
end
