import Derived.Test.YthjkfdakolejgaaGreatDoorK16
import Derived.Test.YthjkfdakolejgaaGreatDoorK14
import Derived.Test.YthjkfdakolejgaaGreatDoorK12
import Derived.Test.YthjkfdakolejgaaGreatDoorK3
import Derived.Test.YthjkfdakolejgaaGreatDoorK5
import Derived.Test.YthjkfdakolejgaaGreatDoorK8
import Derived.Test.YthjkfdakolejgaaGreatDoorProg
import Derived.Test.YthjkfdakolejgaaGreatDoorK15
import Derived.Test.YthjkfdakolejgaaGreatDoorK9
import Derived.Test.YthjkfdakolejgaaGreatDoorRows
import Derived.LaidLaws
import Derived.OpenShut
set_option linter.all false
set_option linter.unusedSimpArgs false
set_option linter.unusedVariables false
set_option linter.unusedSectionVars false
set_option maxHeartbeats 128000000
set_option maxRecDepth 100000
section
open Go Go.Proofs AF HY LN
namespace RC
theorem qCB(h:List AObj):ACalls Tryz.prog 81 [.nl] h .nl h:=by
 refine acO qua ?_;simp (disch:=omega) only[qB3,go_sem]
 repeat' first
  |(apply qb;exact rvk;simp only[go_sem];exact qi)
theorem qFF(a:Int)(h:List AObj):ACalls Tryz.prog 78 [qF [a],.int .i64 0] h (qF []) h:=by
 have s1:=fun h=>qhT h [a]
 have c1:=fun h=>qEz 0 h om
 have z1: ∀g,valL g .len [qF [a]]= .int .i64 1:=fun _=>rfl
 have z2: ∀g,okL g .len [qF [a]]=True:=fun _=>eqt trivial
 have e5:IntKind.u64.wrap 1=1:=by decide
 have e6:IntKind.u64.wrap 0=0:=by decide
 rw[show ((0:Nat):Int)=0 from rfl]at c1;refine acO qz3 ?_;simp (disch:=omega) only[qCr,z1,z2,e5,e6,go_sem]
 repeat' first
  |(refine cA (c1 _) flk ?_;simp (disch:=omega) only[s1,go_sem])
  |with_reducible first|intro _|apply aiA
 all_goals try exact clz
 ·rfl
 refine qu (T:=fun _:Unit=>ze 48 [(7,.osl (h.length+1) 1 1 0 0),(8,.int .i64 0)]) (H:=fun _=>h++ [.emp 1,.mem 1 3 []])
  (inv:=fun _=>True) (m:=fun _=>0) () trivial (Wk.temps ?_) ?_
 ·(simp only[go_sem,qh,qc,qa,qg];try (repeat' first|(with_reducible apply aiA)|(apply qf;omega)|(apply qe;rfl)|exact qi))
 rintro⟨⟩-K hK;have q1:((0:Int)<0)=False:=eqf om;simp (disch:=omega) only[go_sem]
 repeat' first
  |(apply qb;exact rvk;simp only[go_sem])
  |with_reducible first|intro _|apply aiA
 all_goals try exact clz
 exact VLe.sl_eq rfl (fun i hi=>absurd hi (nnz _))
theorem qA7{hh:List AObj}{j v:Nat}(a:Int)(cs:List AV)(hj:qt j hh=some (.mem v 3 (.int .i64 a::cs))):
  ACalls Tryz.prog 78 [.osl j v 1 0 1,.int .i64 0] hh (qF []) (qo j hh (.emp (v+1))):=by
 have hs:qI hh j=true:=by unfold qI;rw[hj]
 have e1:qdr [j] hh=qo j hh (.emp (v+1)):=by show qo j hh (.emp (qp (qt j hh)+1))=_;rw[hj];rfl
 refine ACalls.frzd [j] (by show (qI hh j&&true)=true;rw[hs];rfl) ?_;rw[e1];refine (qFF a _).le ⟨?_,qi,trivial⟩ (qi);have hc:=qO hj;have e: [j].contains j=true:=by simp
 simp only[go_sem,e,if_true,hc];rw[hj,slOf_mem,ipo ⟨rfl,by simp⟩];refine VLe.sl_eq rfl (fun i hi=> ?_);obtain rfl:i=0:=by omega
 rfl
theorem qCT(x:Co)(d:List Dc)(s:Int)(h:List AObj)(hz:qdm x)(hp:kV SG h)(hg:zS h frmN frmC)(hd:d.length≤1000000)(ht: ∀o∈d,o.txt.length≤1000)(hN0:vaE x []=0→(rwA x [] d s.toNat).length≤1000000000):
  ACalls Tryz.prog 25 [.agg (coC x),.nl,qav d,.int .i64 s] h (.tup [qao (esR x [] d s),.int .i64 (esE x [] d s)]) h:=by
 have hu:qic []:=⟨by simp,fun i=>by simp;exact nzl _,fun i j=>by simp;exact nzl _,fun i j=>by simp;exact nzl _⟩
 have c1:=fun l'=>(qty x [] (h++l') hz hu (hp.app l')).le (args:= [.agg (coC x),.nl]) ⟨qi,qW,trivial⟩ (qi)
 have zu: ∀g l,valL g .len [zQ l]= .int .i64 l.length:=fun _ _=>rfl
 have zv: ∀g l,okL g .len [zQ l]=True:=fun _ _=>eqt trivial
 have zu1: ∀g l,valL g .len [strs l]= .int .i64 l.length:=fun _ _=>rfl
 have zv1: ∀g l,okL g .len [strs l]=True:=fun _ _=>eqt trivial
 have hE:esE x [] d s=(if vaE x []≠0 then vaE x [] else if s<0∨(x.sig.length:Int)≤s then 2 else if qbZ x [] d≠0 then qbZ x [] d else if 1024<(rwA x [] d s.toNat).length then 4 else 0):=rfl;unfold esR
 by_cases g:vaE x []=0
 case neg=>
  have k1:(vaE x []=0)=False:=eqf g;rw[ipo g]at hE;rw[hE,ine g];unfold coC at c1;refine acO qa4 ?_;simp (disch:=omega) only[qf9,coC,go_sem]
  repeat' first
   |(refine cA (c1 _) flk ?_;simp (disch:=omega) only[k1,go_sem])
   |(apply qb;exact rvk;simp only[go_sem])
  exact VLe.tup ⟨qW,qi,trivial⟩
 rw[ine (by simpa using g)]at hE;have hN:=hN0 g;simp only[g]at c1;obtain⟨hca,hus,hcv⟩:=qf3 g;have ho:=qbk hca
 by_cases g2:s<0
 ·have k2:(s<0)=True:=eqt g2;rw[ipo (.inl g2)]at hE;rw[hE,ine (by decide)];unfold coC at c1;refine acO qa4 ?_;simp (disch:=omega) only[qf9,coC,go_sem]
  repeat' first
   |(refine cA (c1 _) flk ?_;simp (disch:=omega) only[k2,go_sem])
   |(apply qb;exact rvk;simp only[go_sem])
  exact VLe.tup ⟨qW,qi,trivial⟩
 have k2:(s<0)=False:=eqf g2
 by_cases g3:(x.sig.length:Int)≤s
 ·have k3:((x.sig.length:Int)≤s)=True:=eqt g3;rw[ipo (.inr g3)]at hE;rw[hE,ine (by decide)];unfold coC at c1;refine acO qa4 ?_;simp (disch:=omega) only[qf9,coC,go_sem]
  repeat' first
   |(refine cA (c1 _) flk ?_;simp (disch:=omega) only[k2,k3,zu1,zv1,go_sem])
   |(apply qb;exact rvk;simp only[go_sem])
  exact VLe.tup ⟨qW,qi,trivial⟩
 have k3:((x.sig.length:Int)≤s)=False:=eqf g3;rw[ine (fun e=>e.elim g2 g3)]at hE;have c2:=fun l'=>(qDD x [] d (h++l') hz hu (hp.app l') hg.app hca hd ht).le (args:= [.agg (coC x),.nl,qav d]) ⟨qi,qW,qi,trivial⟩ (qi)
 unfold qAP at c2
 by_cases g4:qbZ x [] d=0
 case neg=>
  have k4:(qbZ x [] d=0)=False:=eqf g4;simp only[ine g4]at c2;rw[ipo g4]at hE;rw[hE,ine g4];unfold coC at c1 c2;refine acO qa4 ?_;simp (disch:=omega) only[qf9,coC,go_sem]
  repeat' first
   |((first|refine cA (c1 _) ?_ ?_|refine cA (c2 _) ?_ ?_);exact flk;simp (disch:=omega) only[k2,k3,k4,zu1,zv1,go_sem])
   |(apply qb;exact rvk;simp only[go_sem])
   |with_reducible apply aiA
  all_goals try exact clz
  exact VLe.tup ⟨qW,qi,trivial⟩
 rw[ine (by simpa using g4)]at hE;simp only[g4,if_true]at c2;rw[hE];unfold coC at c1 c2;refine acO qa4 ?_;simp (disch:=omega) only[qf9,coC,go_sem]
 repeat' first
  |((first|refine cA (c1 _) ?_ ?_|refine cA (c2 _) ?_ ?_);exact flk;simp (disch:=omega) only[k2,k3,zu1,zv1,go_sem])
  |with_reducible apply aiA
 all_goals try exact clz
 have hd0:d= []:=by
  cases d with
  |nil=>rfl
  |cons o r=>
   exfalso
   have:=g4
   unfold qbZ at this;split at this
   ·cases this
   ·have h0:=jR.1 this 0 (by simp);have h1:=(qbY h0).2.2.2.2.1;have h2:qat x [] ((o::r).getD 0 default)= -1:=rfl;omega
 subst hd0;have zi: ∀g l,valL g .len [qF l]= .int .i64 l.length:=fun _ _=>rfl
 have zj: ∀g l,okL g .len [qF l]=True:=fun _ _=>eqt trivial
 have ePL:(plG x [] [] ([]:List Dc).length).length=0:=rfl;refine qz (qA7 (j:=h.length+2) (-1) (List.drop 1 (zh [.int .i64 0] 1)) ?j1) (by exact flk) ?_
 case j1=>simp only[go_sem]
 simp (disch:=omega) only[zi,zj,go_sem];refine qu (T:=fun _:Unit=>ze 154 [(1,.nl),(3,.int .i64 s),(4,.op h.length 1 0),(13,qF []),(56,.int .i64 0),(57,.int .i64 0)])
  (H:=fun _=>h++ [.mem 1 26 [.str x.sec,strs x.sig,qm x.tok,qx x.col],.emp 1,.emp 2,.emp 0,.emp 0,.emp 0,.emp 0,.emp 0,.emp 0,.emp 0,.emp 0,.emp 0,.emp 0,.emp 0,.emp 0,.emp 0])
  (inv:=fun _=>True) (m:=fun _=>0) () trivial (Wk.temps ?_) ?_
 ·(simp only[go_sem,qh,qc,qa,qg];try (repeat' first|(with_reducible apply aiA)|(apply qf;omega)|(apply qe;rfl)|exact qi))
 rintro⟨⟩-K hK;have q1:((0:Int)<0)=False:=eqf om;simp (disch:=omega) only[q1,go_sem];refine⟨_,_,Wk.ownNil (j:=h.length+3) (i:=0) (k:=h.length+15) (v:=1) (ty:=29) (cs:= [.nl]) (ve:=0) (sz:=7) ?m1 rfl ?m2,?_⟩
 case m1=>simp only[go_sem]
 case m2=>simp only[go_sem]
 simp (disch:=omega) only[List.set_cons_zero,go_sem];have bne5:(h.length+6 !=h.length+5)=true:=by simp
 have zc: ∀g l,valL g .len [qx l]= .int .i64 l.length:=fun _ _=>rfl
 have zd: ∀g l,okL g .len [qx l]=True:=fun _ _=>eqt trivial
 refine kr ?T ?H ?h1 ?h2
 case h1=>
  simp (disch:=omega) only[zc,zd,go_sem]
  repeat' first
   |(with_reducible apply aiA)
   |(refine qz (qCB _) (by exact flk) ?_;simp (disch:=omega) only[zc,zd,go_sem])
  all_goals first
   |omega
   |rfl
   |exact bne5
 case h2=>
 simp (disch:=omega) only[go_sem];obtain⟨S,hS⟩: ∃S:Nat,s=S:=⟨s.toNat,om⟩
 subst hS;rw[itn]at hN ⊢;have hSl:S<x.sig.length:=by omega
 obtain⟨MC,hMC⟩: ∃MC,MC= [AV.int .i64 x.col.length,.int .i64 x.col.length,.nl]:=⟨_,rfl⟩
 rw[←hMC];obtain⟨O5,hO5⟩: ∃O5,O5=AObj.mem 1 64 (AV.int .i64 x.col.length:: .int .i64 x.col.length:: .nl::List.drop 3 (zh [.int .i64 0,.int .i64 0,.nl] 1)):=⟨_,rfl⟩
 rw[←hO5];obtain⟨X0,hX0⟩: ∃X0,X0=AObj.mem 1 26 [.str x.sec,strs x.sig,qm x.tok,qx x.col]:=⟨_,rfl⟩
 have lX0: ∀n,lowO n X0:=by
  intro n;rw[hX0];intro c hc;simp at hc;rcases hc with rfl|rfl|rfl|rfl<;>rfl
 refine qu (T:=fun i:EsS=>ze 154 [(1,.nl),(3,.int .i64 (S:Int)),(4,.op h.length 1 0),(13,qF []),(16,.op (h.length+3) 1 0),(17,.op (h.length+4) 1 0),(18,.int .i64 (nxT x [] i.k:Int)),(78,.osl (h.length+6) 1 3 0 1),(79,.int .i64 1),(80,.int .i64 i.k)])
  (H:=fun i=>h++ [.mem 1 26 [.str x.sec,strs x.sig,qm x.tok,qx x.col],.emp 1,.emp 2,.mem 1 29 [.osl (h.length+15) i.vb 7 0 (rwK x [] [] S i.k).length],.mem 1 117 [.fn (.func 79) [] [.op (h.length+3) 1 0]],O5,.mem 1 64 MC,i.O7,i.O8,i.O9,i.O10,i.O11,i.O12,.emp 0,.emp 0,zf i.vb 36 (jA (bsW (rwK x [] [] S i.k)))])
  (inv:=fun i=>i.k≤1∧ ∀O∈ [i.O7,i.O8,i.O9,i.O10,i.O11,i.O12],qI [O] 0=true∧ ∀n,lowO n O) (m:=fun i=>1-i.k) ⟨0,0,.emp 0,.emp 0,.emp 0,.emp 0,.emp 0,.emp 0⟩ ⟨nzl _,fun O hO=>by
   simp at hO;subst hO;exact⟨rfl,fun _=>trivial⟩⟩ (Wk.temps ?_) ?_
 ·(simp only[go_sem,qh,qc,qa,qg];try (repeat' first|(with_reducible apply aiA)|(apply qf;omega)|(apply qe;rfl)|exact qi))
  done
 rintro⟨k,vb,O7,O8,O9,O10,O11,O12⟩ ⟨i1,i2⟩ K hK;simp only at i1 i2 hK;obtain⟨s7,l7⟩:=i2 O7 (by simp);obtain⟨s8,l8⟩:=i2 O8 (by simp);obtain⟨s9,l9⟩:=i2 O9 (by simp);obtain⟨s10,l10⟩:=i2 O10 (by simp);obtain⟨s11,l11⟩:=i2 O11 (by simp);obtain⟨s12,l12⟩:=i2 O12 (by simp);have s7': ∀m,qI (O7::m) 0=true:=fun _=>s7
 have s8': ∀m,qI (O8::m) 0=true:=fun _=>s8
 by_cases hk:k≤0
 case neg=>
  have q1:((k:Int)<(1:Int))=False:=eqf om;have eR:rwK x [] [] S k=rwA x [] [] S:=by unfold rwK;rw[lnl,ine hk]
  rw[eR]
  by_cases g5:1024<(rwA x [] [] S).length
  ·have q5:((1024:Int)<(rwA x [] [] S).length)=True:=eqt om;simp only[ipo g5];simp (disch:=omega) only[q1,q5,go_sem]
   repeat' first
    |(apply qb;exact rvk;simp only[go_sem])
    |with_reducible apply aiA
   all_goals try exact clz
   exact VLe.tup ⟨qW,qi,trivial⟩
  ·have q5:((1024:Int)<(rwA x [] [] S).length)=False:=eqf om;simp only[ine g5];simp (disch:=omega) only[q1,q5,go_sem]
   repeat' first
    |(apply qb;exact rvk;simp only[go_sem])
    |with_reducible apply aiA
   all_goals try exact clz
   exact VLe.tup ⟨qeF (kT _).symm,qi,trivial⟩
 have q1:((k:Int)<(1:Int))=True:=eqt om;have q2:(0≤(k:Int))=True:=eqt om;have hk0:k=0:=by omega
 have hMl:MC.length=3:=by rw[hMC];rfl
 have q3:(k*3+3≤MC.length)=True:=eqt om;have eR:rwK x [] [] S k=rwL x [] [] S k:=by unfold rwK;rw[lnl,ipo hk]
 have eN:nxT x [] k=zY [] k:=by unfold nxT;rw[lnl,ipo hk]
 rw[eR,eN];obtain⟨f,hf⟩: ∃f,f=x.col.length:=⟨_,rfl⟩
 obtain⟨t',ht'⟩: ∃t',t'=x.col.length:=⟨_,rfl⟩
 obtain⟨RV,hRV⟩: ∃RV,RV=AV.nl:=⟨_,rfl⟩
 have eM:List.take 3 (List.drop (k*3) MC)= [.int .i64 (f:Int),.int .i64 (t':Int),RV]:=by rw[hk0,hMC,hf,ht',hRV];rfl
 have a5:zY [] k≤f:=by rw[hk0];exact nzl _
 have a6:f≤x.col.length:=by omega
 have lRV: ∀n,qV n RV=true:=fun n=>by rw[hRV];rfl
 have c3:=fun h=>qBn x (zY [] k) f S h
 have hit:=itS x S (zY [] k) f hz ho hSl a6 a5;have hpF:=qaF ho hSl (f:=zY [] k) (d:=f-zY [] k) om;obtain⟨ps,hps⟩: ∃ps,ps=spk x S (zY [] k) (f-zY [] k):=⟨_,rfl⟩
 have hxl:(spX x S (zY [] k) (f-zY [] k))=ps.map fun p=> [.agg (pcC p)]:=by unfold spX;rw[hps]
 rw[hxl]at hit;rw[←hps]at hpF;unfold coC at c3 hit;simp (disch:=omega) only[q1,q2,q3,eM,s7',s8',go_sem]
 repeat' first
  |(refine cA (c3 _) flk ?_;simp (disch:=omega) only[go_sem])
  |with_reducible apply aiA
 all_goals try exact clz
 obtain⟨L0,hL0⟩: ∃L0,L0=rwL x [] [] S k:=⟨_,rfl⟩
 have hLF: ∀r∈L0,PcF r.p:=by rw[hL0];exact qgB ho hus hSl (fun i hi=>absurd hi (by simp)) hk
 have hLn:(L0++rwM ps (-1) (-1)).length≤1000000000:=by
  refine Nat.le_trans ?_ hN;rw[hL0,hps,hf,hk0];exact nlr _
 rw[←hL0];obtain⟨P7,hP7⟩: ∃P7,P7=AObj.mem (qp (some O7)+1) 3 [.int .i64 (k:Int)]:=⟨_,rfl⟩
 obtain⟨P8,hP8⟩: ∃P8,P8=AObj.mem (qp (some O8)+1) 64 [.int .i64 (f:Int),.int .i64 (t':Int),RV]:=⟨_,rfl⟩
 have hP7l:qI [P7] 0=true∧ ∀n,lowO n P7:=by
  rw[hP7];refine⟨rfl,fun n c hc=> ?_⟩;rw[List.mem_singleton]at hc;subst hc;rfl
 have hP8l:qI [P8] 0=true∧ ∀n,lowO n P8:=by
  rw[hP8];refine⟨rfl,fun n c hc=> ?_⟩;simp only[List.mem_cons,List.not_mem_nil,or_false]at hc;rcases hc with rfl|rfl|rfl
  ·rfl
  ·rfl
  ·exact lRV n
 have cP7: ∀m,cellsOf (P7::m) 0 (qp (some O7)+1)=some [.int .i64 (k:Int)]:=fun m=>by rw[hP7];simp only[go_sem]
 rw[←hP7,←hP8];have lP: ∀L:List Rw,∀v n,lowO n (zf v 36 (jA (bsW L))):=fun L v n=>jv (qcR _ n)
 have hLow: ∀(L M:List Rw) (v w:Nat) O A,(∀n,lowO n A)→LowI (h++ [.mem 1 26 [.str x.sec,strs x.sig,qm x.tok,qx x.col],.emp 1,.emp 2,.mem 1 29 [.osl (h.length+15) w 7 0 M.length],.mem 1 117 [.fn (.func 79) [] [.op (h.length+3) 1 0]],O5,.mem 1 64 MC,P7,P8,O,O10,O11,O12,.emp 0,.emp 0,zf w 36 (jA (bsW M))])
   (h++ [.mem 1 26 [.str x.sec,strs x.sig,qm x.tok,qx x.col],.emp 1,.emp 2,.mem 1 29 [.osl (h.length+15) v 7 0 L.length],.mem 1 117 [.fn (.func 79) [] [.op (h.length+3) 1 0]],O5,.mem 1 64 MC,P7,P8,A,O10,O11,O12,.emp 0,.emp 0,zf v 36 (jA (bsW L))]):=fun L M v w O A lA=>by
  refine⟨by simp,fun o ho=> ?_⟩;rcases List.mem_append.1 ho with h1|h1
  ·exact .inl (List.mem_append_left _ h1)
  ·simp only[List.mem_cons,List.not_mem_nil,or_false]at h1;rcases h1 with rfl|rfl|rfl|rfl|rfl|rfl|rfl|rfl|rfl|rfl|rfl|rfl|rfl|rfl|rfl|rfl
   ·left;simp
   ·left;simp
   ·left;simp
   ·right;refine⟨fun c hc=> ?_,fun c hc=> ?_⟩<;>
    ·rw[List.mem_singleton]at hc;subst hc;simp[qV]
     try omega
   ·left;simp
   ·left;simp
   ·left;simp
   ·left;simp
   ·left;simp
   ·right;exact⟨lA _,lA _⟩
   ·left;simp
   ·left;simp
   ·left;simp
   ·left;simp
   ·left;simp
   ·right;exact⟨lP _ _ _,lP _ _ _⟩
 refine zw hit (fun a ha=> ?_)
  (S:=fun i hh=> ∃A,qI [A] 0=true∧(∀n,lowO n A)∧hh=h++ [.mem 1 26 [.str x.sec,strs x.sig,qm x.tok,qx x.col],.emp 1,.emp 2,.mem 1 29 [.osl (h.length+15) (vb+i) 7 0 (L0++rwM (ps.take i) (-1) (-1)).length],.mem 1 117 [.fn (.func 79) [] [.op (h.length+3) 1 0]],O5,.mem 1 64 MC,P7,P8,A,O10,O11,O12,.emp 0,.emp 0,zf (vb+i) 36 (jA (bsW (L0++rwM (ps.take i) (-1) (-1))))]) (E:=fun _ _=>False) ?_ ?_ ?_ ?_ ?_ ?_ ?_
 ·obtain⟨c,_,rfl⟩:=List.mem_map.1 ha;rfl
 ·rintro i hh ⟨A,_,lA,rfl⟩;exact hLow _ _ _ _ _ _ lA
 ·intro s hh hf;exact hf.elim
 ·exact⟨O9,s9,l9,by simp[rwM]⟩
 ·simp[qV,qV.lowVs]
  repeat' apply aiA
  all_goals first|rfl|omega|exact lRV _
 ·rintro i hh tl LI TS hi ⟨A,sA,lA,rfl⟩ hlen K1 K2 hK1 hN1 hR1 hX1;have hi':i<ps.length:=by rw[List.length_map]at hi;exact hi
  rw[List.getElem_map];have sA': ∀m,qI (A::m) 0=true:=fun _=>sA
  have hS:L0++rwM (ps.take (i+1)) (-1) (-1)=(L0++rwM (ps.take i) (-1) (-1))++ [⟨ps.getD i default,-1,-1⟩]:=by
   unfold rwM;rw[List.take_add_one,zH hi',List.map_append,gdqA,zH hi',List.append_assoc];rfl
  have eG:ps[i]=ps.getD i default:=by rw[gdqA,zH hi'];rfl
  rw[eG];have hpm:ps.getD i default∈ps:=jj hi';obtain⟨p,hp'⟩: ∃p,p=ps.getD i default:=⟨_,rfl⟩
  rw[←hp']at hS hpm ⊢;obtain⟨M,hM⟩: ∃M,M=L0++rwM (ps.take i) (-1) (-1):=⟨_,rfl⟩
  have hMF: ∀r∈M,PcF r.p:=fun r hr=>by
   rw[hM]at hr;rcases List.mem_append.1 hr with hr|hr
   ·exact hLF r hr
   ·exact hpF _ (List.mem_of_mem_take (jm.1 hr).1)
  have hMn:M.length≤1000000000:=by
   rw[hM,lap,jJ,List.length_take];rw[lap,jJ]at hLn;omega
  rw[←hM]at hS ⊢;simp only[kF,List.append_assoc,lca,lna];simp (disch:=omega) only[sA',pcC,tkC,go_sem];refine hK1 _ _ (h++ [.mem 1 26 [.str x.sec,strs x.sig,qm x.tok,qx x.col],.emp 1,.emp 2,.mem 1 29 [.osl (h.length+15) (vb+i) 7 0 M.length],.mem 1 117 [.fn (.func 79) [] [.op (h.length+3) 1 0]],O5,.mem 1 64 MC,P7,P8,(.mem (qp (some A)+1) 115 (pcC p)),O10,O11,O12,.emp 0,.emp 0,zf (vb+i) 36 (jA (bsW M))]) ?_ ?_ ?_
  ·simp[pcC,tkC]
  ·simp
  ·simp only[List.append_assoc,lca,lna];simp (disch:=omega) only[pcC,tkC,go_sem]
   repeat' first
    |with_reducible apply aiA
   all_goals try exact clz
   refine kq (qwR (a:=h.length+3) (b:=h.length+15) (c:=h.length) (va:=1) (vb:=vb+i) (Z:= .mem 1 26 [.str x.sec,strs x.sig,qm x.tok,qx x.col]) ⟨by simp,by simp,by simp,om,om,om⟩ M p (-1) (-1) (by simp only[go_sem]) (by simp only[go_sem]) (by simp only[go_sem]) (by rw[←hX0];exact lX0) (hpF p hpm) hMn hMF) ?_;simp (disch:=omega) only[go_sem];refine hN1 _ _ (h++ [.mem 1 26 [.str x.sec,strs x.sig,qm x.tok,qx x.col],.emp 1,.emp 2,.mem 1 29 [.osl (h.length+15) (vb+(i+1)) 7 0 (M++ [(⟨p,-1,-1⟩:Rw)]).length],.mem 1 117 [.fn (.func 79) [] [.op (h.length+3) 1 0]],O5,.mem 1 64 MC,P7,P8,(.mem (qp (some A)+1) 115 (pcC p)),O10,O11,O12,.emp 0,.emp 0,zf (vb+(i+1)) 36 (jA (bsW (M++ [(⟨p,-1,-1⟩:Rw)])))]) ?_ ?_ ⟨_,rfl,?_,by rw[hS]⟩
   ·simp[pcC,tkC,Nat.add_assoc]
   ·simp
   ·intro n c hc;simp[pcC,tkC]at hc;rcases hc with rfl|rfl|rfl|rfl|rfl|rfl|rfl<;>rfl
 ·rintro hh ⟨A,sA,lA,rfl⟩;rw[List.length_map,List.take_length];obtain⟨L1,hL1⟩: ∃L1,L1=L0++rwM ps (-1) (-1):=⟨_,rfl⟩
  rw[←hL1]
  by_cases hkl:k<0
  case neg=>
   have hke:k=0:=by omega
   obtain⟨b1,b2⟩:f=x.col.length∧t'=x.col.length:=⟨hf,ht'⟩
   have q4:((k:Int)=0)=True:=eqt om;rw[hP7,hP8];simp (disch:=omega) only[q4,go_sem]
   repeat' first
    |with_reducible apply aiA
   all_goals try exact clz
   rw[←hP7,←hP8];have e1:rwK x [] [] S (k+1)=L1:=by
    unfold rwK;rw[ine (by simp),hL1,hL0,hps,b1,hke];rfl
   have e2:nxT x [] (k+1)=t':=by unfold nxT;rw[ine (by simp),b2]
   refine hK _ _ ⟨k+1,vb+ps.length,P7,P8,A,O10,O11,O12⟩ ⟨by simp only;omega,fun O hO=> ?_⟩ (by simp only;omega) ?_
   ·simp only[List.mem_cons,List.not_mem_nil,or_false]at hO;rcases hO with rfl|rfl|rfl|rfl|rfl|rfl
    ·exact hP7l
    ·exact hP8l
    ·exact⟨sA,lA⟩
    ·exact⟨s10,l10⟩
    ·exact⟨s11,l11⟩
    ·exact⟨s12,l12⟩
   ·simp only[e1,e2];refine Wk.temps ?_
    (simp only[go_sem,qh,qc,qa,qg];try (repeat' first|(with_reducible apply aiA)|(apply qf;omega)|(apply qe;rfl)|exact qi))
  exact absurd hkl (nnz k)
 ·intro e hh hf;exact hf.elim
theorem qCC(h:List AObj)(k:Nat)(hk:qI h k=true):ACalls Tryz.prog 81 [.el] h (.osl k (qp (qt k h)+1) 3 0 0) (qo k h (.mem (qp (qt k h)+1) 64 [])):=by
 refine qge qua k (by simp) ?_;simp only[lco,lnl,Nat.reduceAdd,Nat.reduceSub,List.replicate,lca,lna];simp (disch:=omega) only[qB3,go_sem]
 repeat' first
  |(with_reducible apply aiA)
 all_goals first
  |omega
  |contradiction
  |skip
 all_goals try rfl
 exact⟨h.length+1,2,3,0,0,64,[],_,⟨trivial,trivial⟩,rfl,rfl,om,by simp only[go_sem],(fun c hc=>by cases hc),hk,rfl,rfl⟩
theorem qCU(x:Co)(d:List Dc)(s:Int)(h:List AObj)(hz:qdm x)(hp:kV SG h)(hg:zS h frmN frmC)(hd:d.length≤1000000)(ht: ∀o∈d,o.txt.length≤1000)(hN0:vaE x []=0→(rwA x [] d s.toNat).length≤1000000000):
  ACalls Tryz.prog 25 [.agg (coC x),.el,qav d,.int .i64 s] h (.tup [qao (esR x [] d s),.int .i64 (esE x [] d s)]) h:=by
 have hu:qic []:=⟨by simp,fun i=>by simp;exact nzl _,fun i j=>by simp;exact nzl _,fun i j=>by simp;exact nzl _⟩
 have c1:=fun l'=>(qty x [] (h++l') hz hu (hp.app l')).le (args:= [.agg (coC x),.el]) ⟨qi,qrX,trivial⟩ (qi)
 have zu: ∀g l,valL g .len [zQ l]= .int .i64 l.length:=fun _ _=>rfl
 have zv: ∀g l,okL g .len [zQ l]=True:=fun _ _=>eqt trivial
 have zu1: ∀g l,valL g .len [strs l]= .int .i64 l.length:=fun _ _=>rfl
 have zv1: ∀g l,okL g .len [strs l]=True:=fun _ _=>eqt trivial
 have hE:esE x [] d s=(if vaE x []≠0 then vaE x [] else if s<0∨(x.sig.length:Int)≤s then 2 else if qbZ x [] d≠0 then qbZ x [] d else if 1024<(rwA x [] d s.toNat).length then 4 else 0):=rfl;unfold esR
 by_cases g:vaE x []=0
 case neg=>
  have k1:(vaE x []=0)=False:=eqf g;rw[ipo g]at hE;rw[hE,ine g];unfold coC at c1;refine acO qa4 ?_;simp (disch:=omega) only[qf9,coC,go_sem]
  repeat' first
   |(refine cA (c1 _) flk ?_;simp (disch:=omega) only[k1,go_sem])
   |(apply qb;exact rvk;simp only[go_sem])
  exact VLe.tup ⟨qW,qi,trivial⟩
 rw[ine (by simpa using g)]at hE;have hN:=hN0 g;simp only[g]at c1;obtain⟨hca,hus,hcv⟩:=qf3 g;have ho:=qbk hca
 by_cases g2:s<0
 ·have k2:(s<0)=True:=eqt g2;rw[ipo (.inl g2)]at hE;rw[hE,ine (by decide)];unfold coC at c1;refine acO qa4 ?_;simp (disch:=omega) only[qf9,coC,go_sem]
  repeat' first
   |(refine cA (c1 _) flk ?_;simp (disch:=omega) only[k2,go_sem])
   |(apply qb;exact rvk;simp only[go_sem])
  exact VLe.tup ⟨qW,qi,trivial⟩
 have k2:(s<0)=False:=eqf g2
 by_cases g3:(x.sig.length:Int)≤s
 ·have k3:((x.sig.length:Int)≤s)=True:=eqt g3;rw[ipo (.inr g3)]at hE;rw[hE,ine (by decide)];unfold coC at c1;refine acO qa4 ?_;simp (disch:=omega) only[qf9,coC,go_sem]
  repeat' first
   |(refine cA (c1 _) flk ?_;simp (disch:=omega) only[k2,k3,zu1,zv1,go_sem])
   |(apply qb;exact rvk;simp only[go_sem])
  exact VLe.tup ⟨qW,qi,trivial⟩
 have k3:((x.sig.length:Int)≤s)=False:=eqf g3;rw[ine (fun e=>e.elim g2 g3)]at hE;have c2:=fun l'=>(qDD x [] d (h++l') hz hu (hp.app l') hg.app hca hd ht).le (args:= [.agg (coC x),.el,qav d]) ⟨qi,qrX,qi,trivial⟩ (qi)
 unfold qAP at c2
 by_cases g4:qbZ x [] d=0
 case neg=>
  have k4:(qbZ x [] d=0)=False:=eqf g4;simp only[ine g4]at c2;rw[ipo g4]at hE;rw[hE,ine g4];unfold coC at c1 c2;refine acO qa4 ?_;simp (disch:=omega) only[qf9,coC,go_sem]
  repeat' first
   |((first|refine cA (c1 _) ?_ ?_|refine cA (c2 _) ?_ ?_);exact flk;simp (disch:=omega) only[k2,k3,k4,zu1,zv1,go_sem])
   |(apply qb;exact rvk;simp only[go_sem])
   |with_reducible apply aiA
  all_goals try exact clz
  exact VLe.tup ⟨qW,qi,trivial⟩
 rw[ine (by simpa using g4)]at hE;simp only[g4,if_true]at c2;rw[hE];unfold coC at c1 c2;refine acO qa4 ?_;simp (disch:=omega) only[qf9,coC,go_sem]
 repeat' first
  |((first|refine cA (c1 _) ?_ ?_|refine cA (c2 _) ?_ ?_);exact flk;simp (disch:=omega) only[k2,k3,zu1,zv1,go_sem])
  |with_reducible apply aiA
 all_goals try exact clz
 have hd0:d= []:=by
  cases d with
  |nil=>rfl
  |cons o r=>
   exfalso
   have:=g4
   unfold qbZ at this;split at this
   ·cases this
   ·have h0:=jR.1 this 0 (by simp);have h1:=(qbY h0).2.2.2.2.1;have h2:qat x [] ((o::r).getD 0 default)= -1:=rfl;omega
 subst hd0;have zi: ∀g l,valL g .len [qF l]= .int .i64 l.length:=fun _ _=>rfl
 have zj: ∀g l,okL g .len [qF l]=True:=fun _ _=>eqt trivial
 have ePL:(plG x [] [] ([]:List Dc).length).length=0:=rfl;refine qz (qA7 (j:=h.length+2) (-1) (List.drop 1 (zh [.int .i64 0] 1)) ?j1) (by exact flk) ?_
 case j1=>simp only[go_sem]
 simp (disch:=omega) only[zi,zj,go_sem];refine qu (T:=fun _:Unit=>ze 154 [(1,.el),(3,.int .i64 s),(4,.op h.length 1 0),(13,qF []),(56,.int .i64 0),(57,.int .i64 0)])
  (H:=fun _=>h++ [.mem 1 26 [.str x.sec,strs x.sig,qm x.tok,qx x.col],.emp 1,.emp 2,.emp 0,.emp 0,.emp 0,.emp 0,.emp 0,.emp 0,.emp 0,.emp 0,.emp 0,.emp 0,.emp 0,.emp 0,.emp 0])
  (inv:=fun _=>True) (m:=fun _=>0) () trivial (Wk.temps ?_) ?_
 ·(simp only[go_sem,qh,qc,qa,qg];try (repeat' first|(with_reducible apply aiA)|(apply qf;omega)|(apply qe;rfl)|exact qi))
 rintro⟨⟩-K hK;have q1:((0:Int)<0)=False:=eqf om;simp (disch:=omega) only[q1,go_sem];refine⟨_,_,Wk.ownNil (j:=h.length+3) (i:=0) (k:=h.length+15) (v:=1) (ty:=29) (cs:= [.nl]) (ve:=0) (sz:=7) ?m1 rfl ?m2,?_⟩
 case m1=>simp only[go_sem]
 case m2=>simp only[go_sem]
 simp (disch:=omega) only[List.set_cons_zero,go_sem];have bne5:(h.length+14 !=h.length+5)=true:=by simp
 have zc: ∀g l,valL g .len [qx l]= .int .i64 l.length:=fun _ _=>rfl
 have zd: ∀g l,okL g .len [qx l]=True:=fun _ _=>eqt trivial
 refine kr ?T ?H ?h1 ?h2
 case h1=>
  simp (disch:=omega) only[zc,zd,go_sem]
  repeat' first
   |(with_reducible apply aiA)
   |(refine qz (qCC _ (h.length+14) (by simp only[go_sem])) (by exact flk) ?_;simp (disch:=omega) only[zc,zd,go_sem])
  all_goals first
   |omega
   |rfl
   |exact bne5
 case h2=>
 simp (disch:=omega) only[go_sem];obtain⟨S,hS⟩: ∃S:Nat,s=S:=⟨s.toNat,om⟩
 subst hS;rw[itn]at hN ⊢;have hSl:S<x.sig.length:=by omega
 obtain⟨MC,hMC⟩: ∃MC,MC= [AV.int .i64 x.col.length,.int .i64 x.col.length,.nl]:=⟨_,rfl⟩
 rw[←hMC];obtain⟨O5,hO5⟩: ∃O5,O5=AObj.mem 1 64 (AV.int .i64 x.col.length:: .int .i64 x.col.length:: .nl::List.drop 3 (zh [.int .i64 0,.int .i64 0,.nl] 1)):=⟨_,rfl⟩
 rw[←hO5];obtain⟨X0,hX0⟩: ∃X0,X0=AObj.mem 1 26 [.str x.sec,strs x.sig,qm x.tok,qx x.col]:=⟨_,rfl⟩
 have lX0: ∀n,lowO n X0:=by
  intro n;rw[hX0];intro c hc;simp at hc;rcases hc with rfl|rfl|rfl|rfl<;>rfl
 refine qu (T:=fun i:EsS=>ze 154 [(1,.el),(3,.int .i64 (S:Int)),(4,.op h.length 1 0),(13,qF []),(16,.op (h.length+3) 1 0),(17,.op (h.length+4) 1 0),(18,.int .i64 (nxT x [] i.k:Int)),(78,.osl (h.length+14) 2 3 0 1),(79,.int .i64 1),(80,.int .i64 i.k)])
  (H:=fun i=>h++ [.mem 1 26 [.str x.sec,strs x.sig,qm x.tok,qx x.col],.emp 1,.emp 2,.mem 1 29 [.osl (h.length+15) i.vb 7 0 (rwK x [] [] S i.k).length],.mem 1 117 [.fn (.func 79) [] [.op (h.length+3) 1 0]],O5,.emp 0,i.O7,i.O8,i.O9,i.O10,i.O11,i.O12,.emp 0,.mem 2 64 MC,zf i.vb 36 (jA (bsW (rwK x [] [] S i.k)))])
  (inv:=fun i=>i.k≤1∧ ∀O∈ [i.O7,i.O8,i.O9,i.O10,i.O11,i.O12],qI [O] 0=true∧ ∀n,lowO n O) (m:=fun i=>1-i.k) ⟨0,0,.emp 0,.emp 0,.emp 0,.emp 0,.emp 0,.emp 0⟩ ⟨nzl _,fun O hO=>by
   simp at hO;subst hO;exact⟨rfl,fun _=>trivial⟩⟩ (Wk.temps ?_) ?_
 ·(simp only[go_sem,qh,qc,qa,qg];try (repeat' first|(with_reducible apply aiA)|(apply qf;omega)|(apply qe;rfl)|exact qi))
  done
 rintro⟨k,vb,O7,O8,O9,O10,O11,O12⟩ ⟨i1,i2⟩ K hK;simp only at i1 i2 hK;obtain⟨s7,l7⟩:=i2 O7 (by simp);obtain⟨s8,l8⟩:=i2 O8 (by simp);obtain⟨s9,l9⟩:=i2 O9 (by simp);obtain⟨s10,l10⟩:=i2 O10 (by simp);obtain⟨s11,l11⟩:=i2 O11 (by simp);obtain⟨s12,l12⟩:=i2 O12 (by simp);have s7': ∀m,qI (O7::m) 0=true:=fun _=>s7
 have s8': ∀m,qI (O8::m) 0=true:=fun _=>s8
 by_cases hk:k≤0
 case neg=>
  have q1:((k:Int)<(1:Int))=False:=eqf om;have eR:rwK x [] [] S k=rwA x [] [] S:=by unfold rwK;rw[lnl,ine hk]
  rw[eR]
  by_cases g5:1024<(rwA x [] [] S).length
  ·have q5:((1024:Int)<(rwA x [] [] S).length)=True:=eqt om;simp only[ipo g5];simp (disch:=omega) only[q1,q5,go_sem]
   repeat' first
    |(apply qb;exact rvk;simp only[go_sem])
    |with_reducible apply aiA
   all_goals try exact clz
   exact VLe.tup ⟨qW,qi,trivial⟩
  ·have q5:((1024:Int)<(rwA x [] [] S).length)=False:=eqf om;simp only[ine g5];simp (disch:=omega) only[q1,q5,go_sem]
   repeat' first
    |(apply qb;exact rvk;simp only[go_sem])
    |with_reducible apply aiA
   all_goals try exact clz
   exact VLe.tup ⟨qeF (kT _).symm,qi,trivial⟩
 have q1:((k:Int)<(1:Int))=True:=eqt om;have q2:(0≤(k:Int))=True:=eqt om;have hk0:k=0:=by omega
 have hMl:MC.length=3:=by rw[hMC];rfl
 have q3:(k*3+3≤MC.length)=True:=eqt om;have eR:rwK x [] [] S k=rwL x [] [] S k:=by unfold rwK;rw[lnl,ipo hk]
 have eN:nxT x [] k=zY [] k:=by unfold nxT;rw[lnl,ipo hk]
 rw[eR,eN];obtain⟨f,hf⟩: ∃f,f=x.col.length:=⟨_,rfl⟩
 obtain⟨t',ht'⟩: ∃t',t'=x.col.length:=⟨_,rfl⟩
 obtain⟨RV,hRV⟩: ∃RV,RV=AV.nl:=⟨_,rfl⟩
 have eM:List.take 3 (List.drop (k*3) MC)= [.int .i64 (f:Int),.int .i64 (t':Int),RV]:=by rw[hk0,hMC,hf,ht',hRV];rfl
 have a5:zY [] k≤f:=by rw[hk0];exact nzl _
 have a6:f≤x.col.length:=by omega
 have lRV: ∀n,qV n RV=true:=fun n=>by rw[hRV];rfl
 have c3:=fun h=>qBn x (zY [] k) f S h
 have hit:=itS x S (zY [] k) f hz ho hSl a6 a5;have hpF:=qaF ho hSl (f:=zY [] k) (d:=f-zY [] k) om;obtain⟨ps,hps⟩: ∃ps,ps=spk x S (zY [] k) (f-zY [] k):=⟨_,rfl⟩
 have hxl:(spX x S (zY [] k) (f-zY [] k))=ps.map fun p=> [.agg (pcC p)]:=by unfold spX;rw[hps]
 rw[hxl]at hit;rw[←hps]at hpF;unfold coC at c3 hit;simp (disch:=omega) only[q1,q2,q3,eM,s7',s8',go_sem]
 repeat' first
  |(refine cA (c3 _) flk ?_;simp (disch:=omega) only[go_sem])
  |with_reducible apply aiA
 all_goals try exact clz
 obtain⟨L0,hL0⟩: ∃L0,L0=rwL x [] [] S k:=⟨_,rfl⟩
 have hLF: ∀r∈L0,PcF r.p:=by rw[hL0];exact qgB ho hus hSl (fun i hi=>absurd hi (by simp)) hk
 have hLn:(L0++rwM ps (-1) (-1)).length≤1000000000:=by
  refine Nat.le_trans ?_ hN;rw[hL0,hps,hf,hk0];exact nlr _
 rw[←hL0];obtain⟨P7,hP7⟩: ∃P7,P7=AObj.mem (qp (some O7)+1) 3 [.int .i64 (k:Int)]:=⟨_,rfl⟩
 obtain⟨P8,hP8⟩: ∃P8,P8=AObj.mem (qp (some O8)+1) 64 [.int .i64 (f:Int),.int .i64 (t':Int),RV]:=⟨_,rfl⟩
 have hP7l:qI [P7] 0=true∧ ∀n,lowO n P7:=by
  rw[hP7];refine⟨rfl,fun n c hc=> ?_⟩;rw[List.mem_singleton]at hc;subst hc;rfl
 have hP8l:qI [P8] 0=true∧ ∀n,lowO n P8:=by
  rw[hP8];refine⟨rfl,fun n c hc=> ?_⟩;simp only[List.mem_cons,List.not_mem_nil,or_false]at hc;rcases hc with rfl|rfl|rfl
  ·rfl
  ·rfl
  ·exact lRV n
 have cP7: ∀m,cellsOf (P7::m) 0 (qp (some O7)+1)=some [.int .i64 (k:Int)]:=fun m=>by rw[hP7];simp only[go_sem]
 rw[←hP7,←hP8];have lP: ∀L:List Rw,∀v n,lowO n (zf v 36 (jA (bsW L))):=fun L v n=>jv (qcR _ n)
 have hLow: ∀(L M:List Rw) (v w:Nat) O A,(∀n,lowO n A)→LowI (h++ [.mem 1 26 [.str x.sec,strs x.sig,qm x.tok,qx x.col],.emp 1,.emp 2,.mem 1 29 [.osl (h.length+15) w 7 0 M.length],.mem 1 117 [.fn (.func 79) [] [.op (h.length+3) 1 0]],O5,.emp 0,P7,P8,O,O10,O11,O12,.emp 0,.mem 2 64 MC,zf w 36 (jA (bsW M))])
   (h++ [.mem 1 26 [.str x.sec,strs x.sig,qm x.tok,qx x.col],.emp 1,.emp 2,.mem 1 29 [.osl (h.length+15) v 7 0 L.length],.mem 1 117 [.fn (.func 79) [] [.op (h.length+3) 1 0]],O5,.emp 0,P7,P8,A,O10,O11,O12,.emp 0,.mem 2 64 MC,zf v 36 (jA (bsW L))]):=fun L M v w O A lA=>by
  refine⟨by simp,fun o ho=> ?_⟩;rcases List.mem_append.1 ho with h1|h1
  ·exact .inl (List.mem_append_left _ h1)
  ·simp only[List.mem_cons,List.not_mem_nil,or_false]at h1;rcases h1 with rfl|rfl|rfl|rfl|rfl|rfl|rfl|rfl|rfl|rfl|rfl|rfl|rfl|rfl|rfl|rfl
   ·left;simp
   ·left;simp
   ·left;simp
   ·right;refine⟨fun c hc=> ?_,fun c hc=> ?_⟩<;>
    ·rw[List.mem_singleton]at hc;subst hc;simp[qV]
     try omega
   ·left;simp
   ·left;simp
   ·left;simp
   ·left;simp
   ·left;simp
   ·right;exact⟨lA _,lA _⟩
   ·left;simp
   ·left;simp
   ·left;simp
   ·left;simp
   ·left;simp
   ·right;exact⟨lP _ _ _,lP _ _ _⟩
 refine zw hit (fun a ha=> ?_)
  (S:=fun i hh=> ∃A,qI [A] 0=true∧(∀n,lowO n A)∧hh=h++ [.mem 1 26 [.str x.sec,strs x.sig,qm x.tok,qx x.col],.emp 1,.emp 2,.mem 1 29 [.osl (h.length+15) (vb+i) 7 0 (L0++rwM (ps.take i) (-1) (-1)).length],.mem 1 117 [.fn (.func 79) [] [.op (h.length+3) 1 0]],O5,.emp 0,P7,P8,A,O10,O11,O12,.emp 0,.mem 2 64 MC,zf (vb+i) 36 (jA (bsW (L0++rwM (ps.take i) (-1) (-1))))]) (E:=fun _ _=>False) ?_ ?_ ?_ ?_ ?_ ?_ ?_
 ·obtain⟨c,_,rfl⟩:=List.mem_map.1 ha;rfl
 ·rintro i hh ⟨A,_,lA,rfl⟩;exact hLow _ _ _ _ _ _ lA
 ·intro s hh hf;exact hf.elim
 ·exact⟨O9,s9,l9,by simp[rwM]⟩
 ·simp[qV,qV.lowVs]
  repeat' apply aiA
  all_goals first|rfl|omega|exact lRV _
 ·rintro i hh tl LI TS hi ⟨A,sA,lA,rfl⟩ hlen K1 K2 hK1 hN1 hR1 hX1;have hi':i<ps.length:=by rw[List.length_map]at hi;exact hi
  rw[List.getElem_map];have sA': ∀m,qI (A::m) 0=true:=fun _=>sA
  have hS:L0++rwM (ps.take (i+1)) (-1) (-1)=(L0++rwM (ps.take i) (-1) (-1))++ [⟨ps.getD i default,-1,-1⟩]:=by
   unfold rwM;rw[List.take_add_one,zH hi',List.map_append,gdqA,zH hi',List.append_assoc];rfl
  have eG:ps[i]=ps.getD i default:=by rw[gdqA,zH hi'];rfl
  rw[eG];have hpm:ps.getD i default∈ps:=jj hi';obtain⟨p,hp'⟩: ∃p,p=ps.getD i default:=⟨_,rfl⟩
  rw[←hp']at hS hpm ⊢;obtain⟨M,hM⟩: ∃M,M=L0++rwM (ps.take i) (-1) (-1):=⟨_,rfl⟩
  have hMF: ∀r∈M,PcF r.p:=fun r hr=>by
   rw[hM]at hr;rcases List.mem_append.1 hr with hr|hr
   ·exact hLF r hr
   ·exact hpF _ (List.mem_of_mem_take (jm.1 hr).1)
  have hMn:M.length≤1000000000:=by
   rw[hM,lap,jJ,List.length_take];rw[lap,jJ]at hLn;omega
  rw[←hM]at hS ⊢;simp only[kF,List.append_assoc,lca,lna];simp (disch:=omega) only[sA',pcC,tkC,go_sem];refine hK1 _ _ (h++ [.mem 1 26 [.str x.sec,strs x.sig,qm x.tok,qx x.col],.emp 1,.emp 2,.mem 1 29 [.osl (h.length+15) (vb+i) 7 0 M.length],.mem 1 117 [.fn (.func 79) [] [.op (h.length+3) 1 0]],O5,.emp 0,P7,P8,(.mem (qp (some A)+1) 115 (pcC p)),O10,O11,O12,.emp 0,.mem 2 64 MC,zf (vb+i) 36 (jA (bsW M))]) ?_ ?_ ?_
  ·simp[pcC,tkC]
  ·simp
  ·simp only[List.append_assoc,lca,lna];simp (disch:=omega) only[pcC,tkC,go_sem]
   repeat' first
    |with_reducible apply aiA
   all_goals try exact clz
   refine kq (qwR (a:=h.length+3) (b:=h.length+15) (c:=h.length) (va:=1) (vb:=vb+i) (Z:= .mem 1 26 [.str x.sec,strs x.sig,qm x.tok,qx x.col]) ⟨by simp,by simp,by simp,om,om,om⟩ M p (-1) (-1) (by simp only[go_sem]) (by simp only[go_sem]) (by simp only[go_sem]) (by rw[←hX0];exact lX0) (hpF p hpm) hMn hMF) ?_;simp (disch:=omega) only[go_sem];refine hN1 _ _ (h++ [.mem 1 26 [.str x.sec,strs x.sig,qm x.tok,qx x.col],.emp 1,.emp 2,.mem 1 29 [.osl (h.length+15) (vb+(i+1)) 7 0 (M++ [(⟨p,-1,-1⟩:Rw)]).length],.mem 1 117 [.fn (.func 79) [] [.op (h.length+3) 1 0]],O5,.emp 0,P7,P8,(.mem (qp (some A)+1) 115 (pcC p)),O10,O11,O12,.emp 0,.mem 2 64 MC,zf (vb+(i+1)) 36 (jA (bsW (M++ [(⟨p,-1,-1⟩:Rw)])))]) ?_ ?_ ⟨_,rfl,?_,by rw[hS]⟩
   ·simp[pcC,tkC,Nat.add_assoc]
   ·simp
   ·intro n c hc;simp[pcC,tkC]at hc;rcases hc with rfl|rfl|rfl|rfl|rfl|rfl|rfl<;>rfl
 ·rintro hh ⟨A,sA,lA,rfl⟩;rw[List.length_map,List.take_length];obtain⟨L1,hL1⟩: ∃L1,L1=L0++rwM ps (-1) (-1):=⟨_,rfl⟩
  rw[←hL1]
  by_cases hkl:k<0
  case neg=>
   have hke:k=0:=by omega
   obtain⟨b1,b2⟩:f=x.col.length∧t'=x.col.length:=⟨hf,ht'⟩
   have q4:((k:Int)=0)=True:=eqt om;rw[hP7,hP8];simp (disch:=omega) only[q4,go_sem]
   repeat' first
    |with_reducible apply aiA
   all_goals try exact clz
   rw[←hP7,←hP8];have e1:rwK x [] [] S (k+1)=L1:=by
    unfold rwK;rw[ine (by simp),hL1,hL0,hps,b1,hke];rfl
   have e2:nxT x [] (k+1)=t':=by unfold nxT;rw[ine (by simp),b2]
   refine hK _ _ ⟨k+1,vb+ps.length,P7,P8,A,O10,O11,O12⟩ ⟨by simp only;omega,fun O hO=> ?_⟩ (by simp only;omega) ?_
   ·simp only[List.mem_cons,List.not_mem_nil,or_false]at hO;rcases hO with rfl|rfl|rfl|rfl|rfl|rfl
    ·exact hP7l
    ·exact hP8l
    ·exact⟨sA,lA⟩
    ·exact⟨s10,l10⟩
    ·exact⟨s11,l11⟩
    ·exact⟨s12,l12⟩
   ·simp only[e1,e2];refine Wk.temps ?_
    (simp only[go_sem,qh,qc,qa,qg];try (repeat' first|(with_reducible apply aiA)|(apply qf;omega)|(apply qe;rfl)|exact qi))
  exact absurd hkl (nnz k)
 ·intro e hh hf;exact hf.elim
theorem qyE(x:Co)(l:List Un)(d:List Dc)(s:Int)(h:List AObj)(hz:qdm x)(hu:qic l)(hp:kV SG h)(hg:zS h frmN frmC)(hd:d.length≤1000000)(ht: ∀o∈d,o.txt.length≤1000)(hN0:vaE x l=0→(rwA x l d s.toNat).length≤1000000000):
  ACalls Tryz.prog 25 [.agg (coC x),zQ l,qav d,.int .i64 s] h (.tup [qao (esR x l d s),.int .i64 (esE x l d s)]) h:=by
 cases l with
 |nil=>exact ACalls.sl0 (pre:= [.agg (coC x)]) (post:= [qav d,.int .i64 s]) (qCT x d s h hz hp hg hd ht hN0) (qCU x d s h hz hp hg hd ht hN0)
 |cons u r=>exact qE3 x (u::r) d s h hz hu hp hg (List.cons_ne_nil _ _) hd ht hN0
theorem qEY(r:Rd)(own:List Str)(h:List AObj)(h1:r.words.length≤1000000000)(h2:own.length≤1000000000):ACalls Tryz.prog 105 [.agg (rdC r),.ip [strs own]] h (.bool (decide (r.words=own))) h:=by
 have c1:=fun h=>qCQ r.words own h h1 h2
 unfold strs at c1;refine acO qyH ?_;simp (disch:=omega) only[qw8,rdC,strs,go_sem]
 repeat' first
  |((first|refine cA (c1 _) ?_ ?_|refine cG (fun e=>c1 _) ?_ ?_|refine cU (fun _=>c1 _) ?_ ?_);exact flk;simp (disch:=omega) only[rdC,strs,go_sem])
  |((first|apply qb|apply qd);exact rvk;simp only[go_sem];first|exact qi|apply qf|apply qe|apply jl|skip)
  |with_reducible first|intro _|apply aiA
 all_goals try exact clz
theorem qqN(L:List Rd)(own:List Str):qch (fun r=>decide ((L.getD r default).words=own)) L.length 0=qex L own:=by
 unfold qex;congr 1;funext r;exact decide_eq_decide.2 eq_comm
theorem qFi(L:List Rd)(own:List Str)(k v:Nat)(h:List AObj)(hk:qt k h=some (.mem v 22 [strs own]))(hl:L.length≤1000000000)(hw: ∀j,(L.getD j default).words.length≤1000000000)(ho:own.length≤1000000000):
  ACalls Tryz.prog 104 [jN L,.fn (.func 105) [] [.op k v 0]] h (.int .i64 (qex L own)) h:=by
 have hc:=qO hk;rw[←qqN];unfold jN;refine qej qlP L.length (fun j=>rdC (L.getD j default)) (fun j=> .agg (rdC (L.getD j default))) _ [] [.op k v 0] _ h (fun i _=>⟨rfl,by simp[j8,rdC],rfl,rfl,rfl⟩) (fun i _=> ?_) om;refine ACalls.borrow ?_ rfl;have e:([AV.agg (rdC (L.getD i default))]++ [AV.op k v 0]).map (rei (fun _=>true) h 8)= [.agg (rdC (L.getD i default)),.ip [strs own]]:=by
  simp only[lca,lna,List.map_cons,List.map_nil,rei_op,if_true,hc,ipOf_some,List.drop_zero,rei_agg];rfl
 rw[lna,e];exact qEY _ own _ (hw i) ho
theorem qrh{v n:Nat}{L:List Int}{g:AV→AV}(hg: ∀s,g (.int .i64 s)= .int .i64 s)(hn:n=L.length):VLe (qgc (some (zf v 3 (qQ L))) v 1 0 n g) (qF L):=by
 subst hn
 by_cases h:L= []
 ·subst h;show VLe (qgc (some (.emp v)) v 1 0 0 g) _;rw[slOf_emp,ipo rfl];exact qW
 ·have e0:zf v 3 (qQ L)= .mem v 3 (qQ L):=kU (fun e=>h (qfu.1 e));rw[e0,slOf_mem,ipo ⟨rfl,by rw[jr];omega⟩];simp only[Nat.zero_add,Nat.mul_one];exact qfv g hg rfl
def chP(l:List Un)(b:List Wd)(i:Nat):List Int:=(List.range i).map (chK l b)
theorem qpl(l:List Un)(b:List Wd)(i:Nat):chP l b (i+1)=chP l b i++ [chK l b i]:=by unfold chP;rw[List.range_succ,List.map_append];rfl
theorem qlh(l:List Un)(b:List Wd)(i:Nat):(chP l b i).length=i:=by simp[chP]
def chR(x:Co)(l:List Un)(d:List Dc)(s:Int):List Int:=if esE x l d s=0 then chP l (esR x l d s) l.length else []
theorem qCz(x:Co)(l:List Un)(d:List Dc)(s:Int)(h:List AObj)(hz:qdm x)(hu:qic l)(hp:kV SG h)(hg:zS h frmN frmC)(hd:d.length≤1000000)(ht: ∀o∈d,o.txt.length≤1000)(hN0:vaE x l=0→(rwA x l d s.toNat).length≤1000000000):
  ACalls Tryz.prog 48 [.agg (coC x),zQ l,qav d,.int .i64 s] h (.tup [qF (chR x l d s),.int .i64 (esE x l d s)]) h:=by
 have c1:=fun l'=>qyE x l d s (h++l') hz hu (hp.app l') hg.app hd ht hN0
 have hb:=qtX (x:=x) (l:=l) (d:=d) (s:=s);have hl:=hu.n;unfold chR;obtain⟨b,hbb⟩: ∃b,b=esR x l d s:=⟨_,rfl⟩
 obtain⟨E,hE⟩: ∃E,E=esE x l d s:=⟨_,rfl⟩
 simp only[←hbb,←hE]at c1 hb ⊢;unfold coC at c1
 by_cases g:E=0
 case neg=>
  have k1:(E=0)=False:=eqf g;rw[ine g];refine acO qzY ?_;simp (disch:=omega) only[qCm,coC,go_sem]
  repeat' first
   |((first|refine cA (c1 _) ?_ ?_|refine cG (fun e=>c1 _) ?_ ?_|refine cU (fun _=>c1 _) ?_ ?_);exact flk;simp (disch:=omega) only[coC,k1,go_sem])
   |((first|apply qb|apply qd);exact rvk;simp only[go_sem];first|exact qi|apply qf|apply qe|apply jl|skip)
   |with_reducible first|intro _|apply aiA
  all_goals try exact clz
  exact VLe.tup ⟨qW,qi,trivial⟩
 subst g;rw[ipo rfl];have zu1: ∀g,valL g .len [zQ l]= .int .i64 l.length:=fun _=>rfl
 have zu2: ∀g,okL g .len [zQ l]=True:=fun _=>eqt trivial
 have zu:zQ l= .sl l.length fun i=>unC (l.getD i default):=rfl
 refine acO qzY ?_;simp (disch:=omega) only[qCm,coC,zu1,zu2,go_sem]
 repeat' first
  |((first|refine cA (c1 _) ?_ ?_|refine cG (fun e=>c1 _) ?_ ?_|refine cU (fun _=>c1 _) ?_ ?_);exact flk;simp (disch:=omega) only[coC,zu1,zu2,go_sem])
  |((first|apply qb|apply qd);exact rvk;simp only[go_sem];first|exact qi|apply qf|apply qe|apply jl|skip)
  |with_reducible first|intro _|apply aiA
 all_goals try exact clz
 refine qu (T:=fun s:Nat×Nat×AObj×AObj×AObj=>ze 46 [(10,qao b),(12,.osl (h.length+2) s.2.1 1 0 s.1),(27,zQ l),(28,.int .i64 l.length),(29,.int .i64 s.1)])
  (H:=fun s=>h++ [.mem 1 26 (coC x),.emp 1,zf s.2.1 3 (qQ (chP l b s.1)),s.2.2.1,s.2.2.2.1,s.2.2.2.2,.emp 0])
  (inv:=fun s=>s.1≤l.length∧qI [s.2.2.1] 0=true∧qI [s.2.2.2.1] 0=true∧qI [s.2.2.2.2] 0=true) (m:=fun s=>l.length-s.1) (0,1,.emp 0,.emp 0,.emp 0) ⟨nzl _,rfl,rfl,rfl⟩ (Wk.temps ?_) ?_
 ·(simp only[coC,chP,List.range_zero,List.map_nil,go_sem,qh,qc,qa,qg];try (repeat' first|(with_reducible apply aiA)|(apply qf;omega)|(apply qe;rfl)|exact qi))
 rintro⟨i,v,O1,O2,O3⟩ ⟨i1,i2,i3,i4⟩ K hK;simp only at i1 i2 i3 i4 hK;have i2': ∀m,qI (O1::m) 0=true:=fun _=>i2
 have i3': ∀m,qI (O2::m) 0=true:=fun _=>i3
 have i4': ∀m,qI (O3::m) 0=true:=fun _=>i4
 have eL:=qlh l b i
 by_cases hi:i<l.length
 ·have k1:((i:Int)<l.length)=True:=eqt om;have hS:=qpl l b i;have hK0:chK l b i=qex (l.getD i default).rds (owG b (i:Int) b.length):=rfl;have hol:=qAH b (i:Int) b.length;have c2:=fun h=>qFz b (i:Int) h om
  have c3:=fun k v h hk=>qFi (l.getD i default).rds (owG b (i:Int) b.length) k v h hk (hu.rd i) (hu.wd i) om
  rw[←hK0]at c3;obtain⟨y,hy⟩: ∃y,y=chK l b i:=⟨_,rfl⟩
  rw[←hy]at hS c3;obtain⟨W,hW⟩: ∃W,W=owG b (i:Int) b.length:=⟨_,rfl⟩
  simp only[←hW]at c2 c3;obtain⟨L,hL⟩: ∃L,L=chP l b i:=⟨_,rfl⟩
  rw[←hL]at hS eL ⊢;obtain⟨u,hux⟩: ∃u,u=l.getD i default:=⟨_,rfl⟩
  have eu:=hux.symm;simp only[eu]at c3;have eC:=jr L;have eTk:List.take i (qQ L)=qQ L:=ltl om;simp (disch:=omega) only[zu,unC,k1,eu,i2',i3',i4',eC,eL,eTk,Nat.mul_one,go_sem]
  repeat' first
   |((first|refine cA (c2 _) ?_ ?_|refine cG (fun e=>c2 _) ?_ ?_|refine cU (fun _=>c2 _) ?_ ?_);exact flk;simp (disch:=omega) only[zu,unC,k1,eu,i2',i3',i4',eC,eL,eTk,Nat.mul_one,go_sem])
   |((first|apply qb|apply qd);exact rvk;simp only[go_sem];first|exact qi|apply qf|apply qe|apply jl|skip)
   |with_reducible first|intro _|apply aiA
  all_goals try exact clz
  refine cA (c3 (h.length+4) _ _ ?ka) (by exact flk) ?_
  case ka=>simp only[go_sem]
  simp (disch:=omega) only[i2',i3',i4',eC,eL,eTk,Nat.mul_one,go_sem]
  repeat' first
   |((first|apply qb|apply qd);exact rvk;simp only[go_sem];first|exact qi|apply qf|apply qe|apply jl|skip)
   |with_reducible first|intro _|apply aiA
  all_goals try exact clz
  have eA:qQ L++ [AV.int .i64 y]=qQ (L++ [y]):=by rw[qft];rfl
  try rw[eA]
  refine hK _ _ (i+1,v+1,.mem (qp (some O1)+1) 64 (unC u),.mem (qp (some O2)+1) 22 [strs W],.mem (qp (some O3)+1) 3 [.int .i64 y]) ⟨hi,rfl,rfl,rfl⟩ (by simp only;omega) ?_;simp only[hS,unC];refine Wk.temps ?_
  (simp only[coC,go_sem,qh,qc,qa,qg];try (repeat' first|(with_reducible apply aiA)|(apply qf;omega)|(apply qe;rfl)|exact qi))
 have k1:((i:Int)<l.length)=False:=eqf om;obtain rfl:i=l.length:=by omega
 simp (disch:=omega) only[k1,go_sem]
 repeat' first
  |((first|apply qb|apply qd);exact rvk;simp only[go_sem];first|exact qi|apply qf|apply qe|apply jl|skip)
  |with_reducible first|intro _|apply aiA
 all_goals try exact clz
 exact VLe.tup ⟨qrh (fun _=>rfl) eL.symm,qi,trivial⟩
def txE(x:Co)(i:Int):Int:=if coE x≠0 then 1 else if i<0∨(x.sig.length:Int)≤i then 2 else 0
def txR(x:Co)(i:Int):List Str:=if txE x i=0 then qjw (x.tok.getD i.toNat []) else []
theorem qFZ(x:Co)(i:Int)(h:List AObj)(hz:qdm x)(hp:kV SG h):ACalls Tryz.prog 32 [.agg (coC x),.int .i64 i] h (.tup [strs (txR x i),.int .i64 (txE x i)]) h:=by
 have c1:=fun l'=>coP x (h++l') hz (hp.app l')
 have hE:txE x i=if coE x≠0 then 1 else if i<0∨(x.sig.length:Int)≤i then 2 else 0:=rfl
 unfold txR
 by_cases g:coE x=0
 case neg=>
  have k1:(coE x=0)=False:=eqf g;rw[ipo g]at hE;rw[hE,ine (by decide)];obtain⟨e,he⟩: ∃e,e=coE x:=⟨_,rfl⟩
  rw[←he]at c1 k1;unfold coC at c1;refine acO qpQ ?_;simp (disch:=omega) only[qyg,coC,go_sem]
  repeat' first
   |((first|refine cA (c1 _) ?_ ?_|refine cG (fun e=>c1 _) ?_ ?_|refine cU (fun _=>c1 _) ?_ ?_);exact flk;simp (disch:=omega) only[coC,k1,go_sem])
   |((first|apply qb|apply qd);exact rvk;simp only[go_sem];first|exact qi|apply qf|apply qe|apply jl|skip)
   |with_reducible first|intro _|apply aiA
  all_goals try exact clz
  exact VLe.tup ⟨qW,qi,trivial⟩
 rw[ine (fun hc=>hc g)]at hE;simp only[g]at c1;have ho:=qbk g;unfold coC at c1;have zg1: ∀g,valL g .len [strs x.sig]= .int .i64 x.sig.length:=fun _=>rfl
 have zg2: ∀g,okL g .len [strs x.sig]=True:=fun _=>eqt trivial
 by_cases g1:i<0
 ·have k1:(i<0)=True:=eqt g1;rw[ipo (.inl g1)]at hE;rw[hE,ine (by decide)];refine acO qpQ ?_;simp (disch:=omega) only[qyg,coC,zg1,zg2,go_sem]
  repeat' first
   |((first|refine cA (c1 _) ?_ ?_|refine cG (fun e=>c1 _) ?_ ?_|refine cU (fun _=>c1 _) ?_ ?_);exact flk;simp (disch:=omega) only[coC,k1,zg1,zg2,go_sem])
   |((first|apply qb|apply qd);exact rvk;simp only[go_sem];first|exact qi|apply qf|apply qe|apply jl|skip)
   |with_reducible first|intro _|apply aiA
  all_goals try exact clz
  exact VLe.tup ⟨qW,qi,trivial⟩
 have k1:(i<0)=False:=eqf g1
 by_cases g2:(x.sig.length:Int)≤i
 ·have k2:((x.sig.length:Int)≤i)=True:=eqt g2;rw[ipo (.inr g2)]at hE;rw[hE,ine (by decide)];refine acO qpQ ?_;simp (disch:=omega) only[qyg,coC,zg1,zg2,go_sem]
  repeat' first
   |((first|refine cA (c1 _) ?_ ?_|refine cG (fun e=>c1 _) ?_ ?_|refine cU (fun _=>c1 _) ?_ ?_);exact flk;simp (disch:=omega) only[coC,k1,k2,zg1,zg2,go_sem])
   |((first|apply qb|apply qd);exact rvk;simp only[go_sem];first|exact qi|apply qf|apply qe|apply jl|skip)
   |with_reducible first|intro _|apply aiA
  all_goals try exact clz
  exact VLe.tup ⟨qW,qi,trivial⟩
 have k2:((x.sig.length:Int)≤i)=False:=eqf g2;rw[ine (fun e=>e.elim g1 g2)]at hE;rw[hE,ipo rfl];obtain⟨s,rfl⟩: ∃s:Nat,i=s:=⟨i.toNat,om⟩
 rw[itn];have htl:=hz.tl s;have c2:=fun h=>qEJ (x.tok.getD s []) h (by have:=ho.tl s (by rw[ho.tn];omega);omega)
 have zt:qm x.tok= .sl x.tok.length fun i=> [zR (x.tok.getD i [])]:=rfl
 have k3:((s:Int)<x.tok.length)=True:=eqt (by rw[ho.tn];omega);have k4:(0≤(s:Int))=True:=eqt om;refine acO qpQ ?_;simp (disch:=omega) only[qyg,coC,zg1,zg2,go_sem]
 repeat' first
  |((first|refine cA (c1 _) ?_ ?_|refine cG (fun e=>c1 _) ?_ ?_|refine cA (c2 _) ?_ ?_|refine cG (fun e=>c2 _) ?_ ?_|refine cU (fun _=>c1 _) ?_ ?_|refine cU (fun _=>c2 _) ?_ ?_);exact flk;simp (disch:=omega) only[coC,k1,k2,k3,k4,zg1,zg2,zt,go_sem])
  |((first|apply qb|apply qd);exact rvk;simp only[go_sem];first|exact qi|apply qf|apply qe|apply jl|skip)
  |with_reducible first|intro _|apply aiA
 all_goals try exact clz
end RC
end
section
open Go Go.Proofs AF
def qel:List Nat:= []
def qxp:C:=
 ((C.ops [⟨some 2,none,.alloc 0 103 [.str [],.str [],.str [],i6 0,i6 0,.str []],[]⟩]).seq ((C.ops [MV 3 0,MV 4 0,⟨some 5,none,.build [.str [],.str [],.str [],i6 0,i6
 0,.str []] [(0,1),(1,1)],[.t 3,.t 4]⟩,ST 6 2 5]).seq
 C.ret))
theorem qyZ:qL Tryz.prog 144 6 1 [RV.cell 2 (some 6)] qxp:=fi Tryz.f144 [2] qel []
def qEq:C:=
 ((C.ops [⟨some 0,none,.alloc 0 26 [.str [],.nl,.nl,.nl],[]⟩]).seq ((C.ops [⟨some 1,none,.bslc 1 1 2 9 [.str []] [(0,1),(1,1)],[.c (.str [65]),.c (.str [66])]⟩,ON 2
 (.call 144 true) [.c (.str [100,101,117,115])],ON 3 (.call 144 true) [.c (.str [101,115,116])],ON 4 (.call 144 true) [.c (.str [98,111,110,117,115])],⟨some 5,none,
 .bslc 2 6 3 103 [.str [],.str [],.str [],i6 0,i6 0,.str []] [(0,6),(6,6),(12,6)],[.t 2,.t 3,.t 4]⟩,ON 6 (.call 144 true) [.c (.str [100,101,117,115])],ON 7 (.call
 144 true) [.c (.str [98,111,110,117,115])],⟨some 8,none,.bslc 3 6 2 103 [.str [],.str [],.str [],i6 0,i6 0,.str []] [(0,6),(6,6)],[.t 6,.t 7]⟩,⟨some 9,none,
 .bslc 4 1 2 105 [.nl] [(0,1),(1,1)],[.t 5,.t 8]⟩,⟨some 10,none,.bslc 5 1 2 3 [i6 0] [(0,1),(1,1)],[.c (i6 0),.c (i6 0)]⟩,⟨some 11,none,.bslc 6 1 2 3 [i6 0] [(0,1),
 (1,1)],[.c (i6 1),.c (i6 (-1))]⟩,⟨some 12,none,.bslc 7 1 2 3 [i6 0] [(0,1),(1,1)],[.c (i6 2),.c (i6 1)]⟩,⟨some 13,none,.bslc 8 1 3 39 [.nl] [(0,1),(1,1),(2,1)],
 [.t 10,.t 11,.t 12]⟩,⟨some 14,none,.build [.str [],.nl,.nl,.nl] [(0,1),(1,1),(2,1),(3,1)],[.c (.str [97]),.t 1,.t 9,.t 13]⟩,ST 4 0 14]).seq
 C.ret))
theorem qDd:qL Tryz.prog 92 15 9 [RV.cell 0 (some 4)] qEq:=fi Tryz.f92 [0,1,5,8,9,10,11,12,13] qel []
def qyi:C:=
 ((C.ops [O1 1 (.box 0 75) 0,MC 2 (.bool false)]).seq ((C.ops [O1 3 (.fldA 0) 1,O1 4 (.load (some 4)) 3,O1 5 (.call 28 true) 4,MV 6 5,P1 7 6 false (.fldA 4) 1,P1 8 6 false
 (.load none) 7,P1 9 6 false (.call 97 true) 8,PT 10 6 9,MV 11 10,P1 12 11 false (.fldA 5) 1,P1 13 11 false (.load none) 12,P1 14 11 false (.call 23 true) 13,PT 15 11 14,MV
 2 15]).seq
 C.ret))
theorem qpS:qL Tryz.prog 46 16 1 [RV.tmp 2] qyi:=fi Tryz.f46 [1] qel []
def qyh:C:=
 ((C.ops [O1 1 (.box 0 75) 0,ON 2 (.nilo 1 7 36) [],MC 3 (.bool false)]).seq (((C.ops [O1 6 (.load (some 7)) 1,O1 7 (.call 46 true) 6,MV 8 7,P1 9 8 false (.fldA 0) 1,P1 10 8
 false (.load (some 4)) 9,P1 11 8 false (.call 29 true) 10,PC 12 8 false (.bin .neq) 11 (i6 0),PT 13 8 12]).seq (C.cond (.t 13) ((C.ops [ON 2 (.nilo 1 7 36) [],MC 3 (.bool
 false)]).seq C.ret) C.skip)).seq ((C.ops [O1 15 (.fldA 0) 1,O1 16 (.load (some 4)) 15,O1 17 (.fldA 4) 1,LD 18 17,O1 19 (.fldA 5) 1,LD 20 19,O1 21 (.fldA 6) 1,LD 22 21,ON 23
 (.call 25 true) [.t 16,.t 18,.t 20,.t 22],MV 14 23,O1 24 (.ext 0) 14,O1 25 (.ext 1) 14,MV 4 24,MV 5 25]).seq ((C.ops [MV 26 4,MV 27 5,BC 28 .eql 27 (i6 0),MV 2 26,MV 3
 28]).seq
 C.ret))))
theorem qpR:qL Tryz.prog 39 29 2 [RV.tmp 2,RV.tmp 3] qyh:=fi Tryz.f39 [1,2] qel []
end
section
open Go Go.Proofs AF
def qus:List Nat:= [25]
def qEi:C:=
 ((C.ops [MC 0 (.bool false)]).seq ((C.ops [ON 10 (.call 92 true) [],O1 11 (.call 31 true) 10,MV 9 11,O1 12 (.ext 0) 9,O1 13 (.ext 1) 9,MV 1 12,MV 2 13]).seq ((C.ops [ON 15
 (.call 92 true) [],MV 16 1,ON 17 (.call 25 false) [.t 15,.t 16,.c .nl,.c (i6 0)],MV 14 17,O1 18 (.ext 0) 14,O1 19 (.ext 1) 14,MV 3 18,MV 4 19]).seq ((C.ops [ON 21 (.call
 92 true) [],MV 22 1,⟨some 23,none,.build [i6 0,.str [],i6 0,.str []] [(0,1),(1,1),(2,1)],[.c (i6 3),.c (.str [65]),.c (i6 1)]⟩,⟨some 24,none,.bslc 0 4 1 43 [i6 0,
 .str [],i6 0,.str []] [(0,4)],[.t 23]⟩,ON 25 (.call 25 false) [.t 21,.t 22,.t 24,.c (i6 0)],MV 20 25,O1 26 (.ext 0) 20,O1 27 (.ext 1) 20,MV 5 26,MV 6 27]).seq ((C.ops
 [ON 29 (.call 92 true) [],MV 30 1,⟨some 31,none,.build [i6 0,.str [],i6 0,.str []] [(0,1),(1,1),(2,1),(3,1)],[.c (i6 2),.c (.str [65]),.c (i6 1),.c (.str [118,
 101,114,101,44,32,101,116])]⟩,⟨some 32,none,.bslc 1 4 1 43 [i6 0,.str [],i6 0,.str []] [(0,4)],[.t 31]⟩,ON 33 (.call 25 false) [.t 29,.t 30,.t 32,.c (i6 0)],MV
 28 33,O1 34 (.ext 0) 28,O1 35 (.ext 1) 28,MV 7 34,MV 8 35]).seq (((C.ops [MV 36 2,MV 37 4,MV 38 6,MV 39 8,ON 40 (.mm true) [.t 36,.t 37,.t 38,.t 39],BC 41 .neq 40 (i6
 0),MV 42 41,MG 43 42 false 7,P1 44 42 false .len 43,PC 45 42 false (.bin .neq) 44 (i6 5),PT 46 42 45]).seq (C.cond (.t 46) ((C.ops [MC 0 (.bool false)]).seq C.ret)
 C.skip)).seq ((C.ops [MV 47 3,O1 48 (.call 37 true) 47,⟨some 49,none,.bslc 2 1 3 9 [.str []] [(0,1),(1,1),(2,1)],[.c (.str [100,101,117,115]),.c (.str [101,115,
 116]),.c (.str [98,111,110,117,115])]⟩,O2 50 (.call 36 true) 48 49,MV 51 50,MG 52 51 true 5,P1 53 51 true (.call 37 true) 52,⟨some 54,some (51,true),.bslc 3 1 2 9
 [.str []] [(0,1),(1,1)],[.c (.str [100,101,117,115]),.c (.str [98,111,110,117,115])]⟩,P2 55 51 true (.call 36 true) 53 54,PF 56 51 55,MV 57 56,MG 58 57 true 7,P1
 59 57 true (.call 37 true) 58,⟨some 60,some (57,true),.bslc 4 1 5 9 [.str []] [(0,1),(1,1),(2,1),(3,1),(4,1)],[.c (.str [100,101,117,115]),.c (.str [118,101,
 114,101]),.c (.str [44]),.c (.str [101,116]),.c (.str [98,111,110,117,115])]⟩,P2 61 57 true (.call 36 true) 59 60,PF 62 57 61,MV 63 62,MG 64 63 true 7,PC 65 63 true
 (.idxA 7) 64 (i6 2),P1 66 63 true (.fldA 4) 65,P1 67 63 true (.load none) 66,PF 68 63 67,MV 69 68,MG 70 69 true 7,PC 71 69 true (.idxA 7) 70 (i6 3),P1 72 69 true (.fldA 4)
 71,P1 73 69 true (.load none) 72,P1 74 69 true (.un UnOp.not) 73,PF 75 69 74,MV 0 75]).seq
 C.ret)))))))
theorem qC3:qL Tryz.prog 40 76 5 [RV.tmp 0] qEi:=fi Tryz.f40 [24,32,49,54,60] qus []
end
section
open Go Go.Proofs AF HY LN
namespace RC
theorem qFc(a:Cq)(h:List AObj)(hb:CqB a):ACalls Tryz.prog 46 [.agg (cqC a)] h (.bool (qug a)) h:=by
 have c1:=fun h=>qE8 a.x h hb.x
 have c2:=fun h=>qE9 a.l h hb.l
 have c3:=fun h=>qDm a.d h hb.d
 unfold qug;cases e1:que a.x with
 |true=>
  rw[e1]at c1;unfold coC at c1;refine acO qpS ?_;simp (disch:=omega) only[qyi,cqC,go_sem]
  repeat' first
   |(refine qj ( .bool false) ?_;simp (disch:=omega) only[go_sem])
   |(refine cA (c1 _) flk ?_;simp (disch:=omega) only[go_sem])
   |(apply qb;exact rvk;simp only[go_sem];exact qi)
 |false=>
  rw[e1]at c1;unfold coC at c1;cases e2:quf a.l with
  |true=>
   rw[e2]at c2;refine acO qpS ?_;simp (disch:=omega) only[qyi,cqC,go_sem]
   repeat' first
    |(refine qj ( .bool false) ?_;simp (disch:=omega) only[go_sem])
    |((first|refine cA (c1 _) ?_ ?_|refine cG (fun e=>c2 _) ?_ ?_);exact flk;simp (disch:=omega) only[go_sem])
    |(apply qb;exact rvk;simp only[go_sem];exact qi)
  |false=>
   rw[e2]at c2;cases e3:quh a.d with
   |true=>
    rw[e3]at c3;refine acO qpS ?_;simp (disch:=omega) only[qyi,cqC,go_sem]
    repeat' first
     |((first|refine cA (c1 _) ?_ ?_|refine cG (fun e=>c2 _) ?_ ?_|refine cG (fun e=>c3 _) ?_ ?_);exact flk;simp (disch:=omega) only[go_sem])
     |(apply qb;exact rvk;simp only[go_sem];exact qi)
   |false=>
    rw[e3]at c3;refine acO qpS ?_;simp (disch:=omega) only[qyi,cqC,go_sem]
    repeat' first
     |((first|refine cA (c1 _) ?_ ?_|refine cG (fun e=>c2 _) ?_ ?_|refine cG (fun e=>c3 _) ?_ ?_);exact flk;simp (disch:=omega) only[go_sem])
     |(apply qb;exact rvk;simp only[go_sem];exact qi)
def mdB(a:Cq):Bool:= !qug a&&decide (esE a.x a.l a.d a.lead=0)
def mdR(a:Cq):List Wd:=if qug a=true then [] else esR a.x a.l a.d a.lead
theorem qCS{x:Co}{l:List Un}{d:List Dc}{s:Int}(h:coE x≠0):esE x l d s≠0:=by
 have:vaE x l=1:=by unfold vaE;rw[ipo h]
 unfold esE;rw[this,ipo (by decide)];decide
theorem esA(a:Cq)(h:List AObj)(z:CqS a)(hp:kV SG h)(hg:zS h frmN frmC):ACalls Tryz.prog 25 [.agg (coC a.x),zQ a.l,qav a.d,.int .i64 a.lead] h (.tup [qao (esR a.x a.l a.d a.lead),.int .i64 (esE a.x a.l a.d a.lead)]) h:=
 qyE a.x a.l a.d a.lead h z.x z.l hp hg (by have:=z.d;omega) (fun o ho=>by have:=z.t o ho;omega) (z.lim _)
theorem qDt(a:Cq)(h:List AObj)(hb:CqB a)(hp:kV SG h)(hg:zS h frmN frmC):ACalls Tryz.prog 39 [.agg (cqC a)] h (.tup [qao (mdR a),.bool (mdB a)]) h:=by
 have c1:=fun h=>qFc a h hb
 unfold mdB mdR;cases e1:qug a with
 |true=>
  rw[e1]at c1;refine acO qpR ?_;simp (disch:=omega) only[qyh,cqC,go_sem]
  repeat' first
   |(refine qj ( .int .i64 0) ?_;simp (disch:=omega) only[go_sem])
   |(refine cA (c1 _) flk ?_;simp (disch:=omega) only[go_sem])
   |(apply qb;exact rvk;simp only[go_sem])
  exact VLe.tup ⟨qW,qi,trivial⟩
 |false=>
  rw[e1]at c1;have z:=qst e1;have c2:=fun l'=>coR a.x (h++l') z.x (hp.app l')
  have c3:=fun l'=>esA a (h++l') z (hp.app l') hg.app
  rw[ine (by simp)]
  by_cases e2:coE a.x=0
  ·rw[e2]at c2;obtain⟨E,hE⟩: ∃E,E=esE a.x a.l a.d a.lead:=⟨_,rfl⟩
   simp only[←hE]at c3 ⊢;unfold cqC at c1;unfold coC at c2 c3
   by_cases e3:E=0
   ·have k3:(E=0)=True:=eqt e3;rw[dqt e3];refine acO qpR ?_;simp (disch:=omega) only[qyh,cqC,go_sem]
    repeat' first
     |((first|refine cA (c1 _) ?_ ?_|refine cG (fun e=>c2 _) ?_ ?_|refine cA (c3 _) ?_ ?_);exact flk;simp (disch:=omega) only[k3,go_sem])
     |(apply qb;exact rvk;simp only[go_sem];exact qi)
     |with_reducible apply aiA
    all_goals try exact clz
   ·have k3:(E=0)=False:=eqf e3;rw[dqf e3];refine acO qpR ?_;simp (disch:=omega) only[qyh,cqC,go_sem]
    repeat' first
     |((first|refine cA (c1 _) ?_ ?_|refine cG (fun e=>c2 _) ?_ ?_|refine cA (c3 _) ?_ ?_);exact flk;simp (disch:=omega) only[k3,go_sem])
     |(apply qb;exact rvk;simp only[go_sem];exact qi)
     |with_reducible apply aiA
    all_goals try exact clz
  ·have k2:(coE a.x=0)=False:=eqf e2;have hn:=qCS (l:=a.l) (d:=a.d) (s:=a.lead) e2;rw[dqf hn];unfold esR;rw[ine hn];obtain⟨E,hE⟩: ∃E,E=coE a.x:=⟨_,rfl⟩
   simp only[←hE]at c2 k2;unfold cqC at c1;unfold coC at c2;refine acO qpR ?_;simp (disch:=omega) only[qyh,cqC,go_sem]
   repeat' first
    |((first|refine cA (c1 _) ?_ ?_|refine cG (fun e=>c2 _) ?_ ?_);exact flk;simp (disch:=omega) only[k2,go_sem])
    |(apply qb;exact rvk;simp only[go_sem])
   exact VLe.tup ⟨qW,qi,trivial⟩
theorem qDT(s:Str)(h:List AObj):ACalls Tryz.prog 144 [.str s] h (.agg (tkC (tkS s))) h:=by
 unfold tkS tkC;refine acO qyZ ?_;simp (disch:=omega) only[qxp,go_sem]
 repeat' first
  |(apply qb;exact rvk;simp only[go_sem];exact qi)
theorem qDQ(h:List AObj):ACalls Tryz.prog 92 [] h (.agg (coC xCo)) h:=by
 have c1:=fun s h=>qDT s h
 unfold tkC tkS at c1;refine acO qDd ?_;simp (disch:=omega) only[qEq,go_sem]
 repeat' first
  |((first|refine cA (c1 qcy _) ?_ ?_|refine cA (c1 qwM _) ?_ ?_|refine cA (c1 qaq _) ?_ ?_);exact flk;simp (disch:=omega) only[go_sem])
  |(apply qb;exact rvk;simp only[go_sem])
 refine VLe.agg ⟨qi,vl2 ⟨ie rfl,trivial⟩ ⟨ie rfl,trivial⟩,vl2 ⟨?a1,trivial⟩ ⟨?a2,trivial⟩,vl3 ⟨?a3,trivial⟩ ⟨?a4,trivial⟩ ⟨?a5,trivial⟩,trivial⟩
 case a1=>simp only[go_sem];exact il3 rfl rfl rfl
 case a2=>simp only[go_sem];exact il2 rfl rfl
 case a3=>simp only[go_sem];exact il2 rfl rfl
 case a4=>simp only[go_sem];exact il2 rfl rfl
 case a5=>simp only[go_sem];exact il2 rfl rfl
def qvf:Str:= [118,101,114,101]
def qD1:Dc:=⟨3,[65],1,[]⟩
def qD2:Dc:=⟨2,[65],1,[118,101,114,101,44,32,101,116]⟩
def qA:List Wd:= [⟨qcy,0,-1,-1,false,false,[]⟩,⟨qwM,1,0,-1,false,false,[]⟩,⟨qaq,2,-1,-1,false,false,[]⟩]
def qB:List Wd:= [⟨qcy,0,-1,-1,false,false,[]⟩,⟨qaq,2,-1,-1,false,false,[]⟩]
def qC:List Wd:= [⟨qcy,0,-1,-1,false,false,[]⟩,⟨qvf,1,0,0,false,false,[]⟩,⟨[44],1,0,0,true,false,[]⟩,⟨[101,116],1,0,0,false,false,[]⟩,⟨qaq,2,-1,-1,false,false,[]⟩]
theorem q_u:utR xCo=xUn∧utE xCo=0:=by decide+kernel
theorem q_a:esE xCo xUn [] 0=0∧esR xCo xUn [] 0=qA:=by decide+kernel
theorem q_b:esE xCo xUn [qD1] 0=0∧esR xCo xUn [qD1] 0=qB:=by decide+kernel
theorem q_c:esE xCo xUn [qD2] 0=0∧esR xCo xUn [qD2] 0=qC:=by decide+kernel
theorem qCd(h:List AObj)(hp:kV SG h)(hg:zS h frmN frmC):ACalls Tryz.prog 40 [] h (.bool true) h:=by
 have c1:=fun h=>qDQ h
 have zs:qdm xCo:=(qsr (by decide+kernel)).1;have zu:qic xUn:=(qss (by decide+kernel)).1;have c2:=fun l'=>qDW xCo (h++l') zs (hp.app l')
 rw[q_u.1,q_u.2]at c2;have hb: ∀d:List Dc,(∀o∈d,o.txt.length≤1000)→vaE xCo xUn=0→(rwA xCo xUn d (0:Int).toNat).length≤1000000000:=fun d ht g=>qnl (by decide) ht g
 have t1: ∀o∈ [qD1],o.txt.length≤1000:=by decide
 have t2: ∀o∈ [qD2],o.txt.length≤1000:=by decide
 have c3:=fun l'=>(qyE xCo xUn [] 0 (h++l') zs zu (hp.app l') hg.app (by simp) (by simp) (hb [] (by simp))).le (args:= [.agg (coC xCo),zQ xUn,.nl,.int .i64 0]) ⟨qi,qi,qW,qi,trivial⟩ (qi)
 have c4:=fun l'=>qyE xCo xUn [qD1] 0 (h++l') zs zu (hp.app l') hg.app (by simp) t1 (hb _ t1)
 have c5:=fun l'=>qyE xCo xUn [qD2] 0 (h++l') zs zu (hp.app l') hg.app (by simp) t2 (hb _ t2)
 rw[q_a.1,q_a.2]at c3;rw[q_b.1,q_b.2]at c4;rw[q_c.1,q_c.2]at c5;have hc0:([h.length]:List Nat).contains h.length=true:=by simp
 have hc1:([h.length+1]:List Nat).contains (h.length+1)=true:=by simp
 unfold coC at c1 c2 c3;refine acO qC3 ?_;simp (disch:=omega) only[qEi,go_sem]
 repeat' first
  |((first|refine cA (c1 _) ?_ ?_|refine cA (c2 _) ?_ ?_|refine cA (c3 _) ?_ ?_);exact flk;simp (disch:=omega) only[go_sem])
  |with_reducible apply aiA
 all_goals try exact clz
 refine qz (r:= .tup [qao qB,.int .i64 0]) (h':=h++ [.emp 2,.emp 0,.emp 0,.emp 0,.emp 0]) (ACalls.frzd [h.length] (by simp only[qaL,go_sem]) ?c) (by exact flk) ?_
 case c=>
  simp only[qdr,go_sem];refine ACalls.le (c4 _) ?_ (qi);simp only[go_sem,coC,hc0,if_true];exact⟨qi,qi,VLe.sl_eq rfl (fun i hi=>by
   obtain rfl:i=0:=by omega
   rfl),qi,trivial⟩
 simp (disch:=omega) only[go_sem]
 repeat' first
  |(refine cA (c1 _) flk ?_;simp (disch:=omega) only[go_sem])
  |with_reducible apply aiA
 all_goals try exact clz
 refine qz (r:= .tup [qao qC,.int .i64 0]) (h':=h++ [.emp 2,.emp 2,.emp 0,.emp 0,.emp 0]) (ACalls.frzd [h.length+1] (by simp only[qaL,go_sem]) ?d) (by exact flk) ?_
 case d=>
  simp only[qdr,go_sem];refine ACalls.le (c5 _) ?_ (qi);simp only[go_sem,coC,hc1,if_true];exact⟨qi,qi,VLe.sl_eq rfl (fun i hi=>by
   obtain rfl:i=0:=by omega
   rfl),qi,trivial⟩
 have zm:valP (.mm true) [.int .i64 0,.int .i64 0,.int .i64 0,.int .i64 0]= .int .i64 0:=rfl;have zn:okP (.mm true) [.int .i64 0,.int .i64 0,.int .i64 0,.int .i64 0]=True:=eqt (by simp[okP,qc5]);have zA: ∀g,valL g .len [qao qC]= .int .i64 5:=fun _=>rfl
 have zB: ∀g,okL g .len [qao qC]=True:=fun _=>eqt trivial
 have w1:=fun h=>qrV qA h (by decide)
 have w2:=fun h=>qrV qB h (by decide)
 have w3:=fun h=>qrV qC h (by decide)
 have e1:qgd qA= [qcy,qwM,qaq]:=rfl;have e2:qgd qB= [qcy,qaq]:=rfl;have e3:qgd qC= [qcy,qvf,[44],[101,116],qaq]:=rfl;rw[e1]at w1;rw[e2]at w2;rw[e3]at w3;simp (disch:=omega) only[zm,zn,zA,zB,go_sem]
 repeat' first
  |(refine cA (w1 _) flk ?_;simp (disch:=omega) only[go_sem])
  |with_reducible apply aiA
 all_goals try exact clz
 refine cA (qCP (L:= [qcy,qwM,qaq]) ?v1 (by decide)) (by exact flk) ?_
 case v1=>
  simp only[List.map,go_sem];exact⟨qi,VLe.sl_eq rfl (fun i hi=>by
   match i,hi with
   |0,_=>rfl
   |1,_=>rfl
   |2,_=>rfl
   |n+3,hi=>exact absurd hi om),trivial⟩
 simp (disch:=omega) only[go_sem]
 repeat' first
  |(refine cG (fun e=>w2 _) flk ?_;simp (disch:=omega) only[go_sem])
 refine cG (fun _=>qCP (L:= [qcy,qaq]) ?v2 (by decide)) (fun _=>by exact flk) ?_
 case v2=>
  simp only[List.map,go_sem];exact⟨qi,VLe.sl_eq rfl (fun i hi=>by
   match i,hi with
   |0,_=>rfl
   |1,_=>rfl
   |n+2,hi=>exact absurd hi om),trivial⟩
 simp (disch:=omega) only[go_sem]
 repeat' first
  |(refine cG (fun e=>w3 _) flk ?_;simp (disch:=omega) only[go_sem])
 refine cG (fun _=>qCP (L:= [qcy,qvf,[44],[101,116],qaq]) ?v3 (by decide)) (fun _=>by exact flk) ?_
 case v3=>
  simp only[List.map,go_sem];exact⟨qi,VLe.sl_eq rfl (fun i hi=>by
   match i,hi with
   |0,_=>rfl
   |1,_=>rfl
   |2,_=>rfl
   |3,_=>rfl
   |4,_=>rfl
   |n+5,hi=>exact absurd hi om),trivial⟩
 have zq:qao qC= .sl 5 fun i=>wdC (qC.getD i default):=rfl
 have g2:qC.getD 2 default=⟨[44],1,0,0,true,false,[]⟩:=rfl;have g3:qC.getD 3 default=⟨[101,116],1,0,0,false,false,[]⟩:=rfl;simp (disch:=omega) only[zq,wdC,go_sem]
 repeat' first
  |(apply qb;exact rvk;simp only[go_sem];exact qi)
  |with_reducible first|intro _|apply aiA
 all_goals try exact clz
theorem qw6{L:List Rw}{i:Nat}(hi:i<L.length):((bsW L).getD i default).dec=(L.getD i default).d:=by rw[qkM hi];rfl
theorem qe2.esE{x:Co}{l:List Un}{d:List Dc}{s:Nat}(h:qe2 x l d s):esE x l d s=0:=by
 have h1:vaE x l=0:=by
  unfold vaE;rw[ine (fun hc=>hc h.ca),ine];unfold rgB;rw[h.us,h.cv];simp
 have h2:qbZ x l d=0:=by
  unfold qbZ;rw[ine (by have:=h.dl;omega)];exact jR.2 h.pl
 have:=h.sl
 have:=h.ln
 unfold RC.esE;rw[h1,h2,ine (by simp),ine om,ine (by simp),ine (by rw[itn];omega)]
end RC
end
section
open Go Go.Proofs AF
end
section
open Go Go.Proofs AF HY LN
namespace RC
theorem qDu{a:Cq}(h:mdB a=true):CqS a∧0≤a.lead∧qe2 a.x a.l a.d a.lead.toNat∧mdR a=bsW (rwA a.x a.l a.d a.lead.toNat):=by
 unfold mdB at h;rw[Bool.and_eq_true,Bool.not_eq_true',decide_eq_true_iff]at h;obtain⟨h1,h2⟩:=h;obtain⟨h3,h4⟩:=qr9 h2;refine⟨qst h1,h3,h4,?_⟩;unfold mdR;rw[ine (by simp[h1])];unfold esR;rw[ipo h2]
end RC
end
section
open Go Go.Proofs AF
def qut:List Nat:= []
def qCi:C:=
 ((C.ops [O1 1 (.box 0 75) 0,MC 2 (.bool false)]).seq ((C.ops [O1 15 (.fldA 5) 1,⟨none,none,.store 1,[.t 15,.c .nl]⟩]).seq ((C.ops [O1 17 (.load (some 7)) 1,O1 18 (.call 39
 true) 17,MV 16 18,O1 19 (.ext 0) 16,O1 20 (.ext 1) 16,MV 3 19,MV 4 20]).seq (((C.ops [MV 21 4,O1 22 (.un UnOp.not) 21]).seq (C.cond (.t 22) ((C.ops [ON 23 (.call 40 true) [],
 MV 2 23]).seq C.ret) C.skip)).seq ((C.ops [O1 25 (.fldA 0) 1,O1 26 (.load (some 4)) 25,O1 27 (.fldA 6) 1,LD 28 27,O2 29 (.call 32 true) 26 28,MV 24 29,O1 30 (.ext 0) 24,O1
 31 (.ext 1) 24,MV 5 30,MV 6 31]).seq ((C.ops [O1 33 (.fldA 0) 1,O1 34 (.load (some 4)) 33,O1 35 (.fldA 4) 1,LD 36 35,O1 37 (.fldA 6) 1,LD 38 37,ON 39 (.call 48 true) [.t
 34,.t 36,.c .nl,.t 38],MV 32 39,O1 40 (.ext 0) 32,O1 41 (.ext 1) 32,MV 7 40,MV 8 41]).seq (((C.ops [MV 42 6,BC 43 .neq 42 (i6 0),MV 44 43,MG 45 44 false 8,PC 46 44
 false (.bin .neq) 45 (i6 0),PT 47 44 46,MV 48 47,MG 49 48 false 7,P1 50 48 false .len 49,P1 51 48 false (.fldA 4) 1,P1 52 48 false (.load none) 51,P1 53 48 false .len 52,P2
 54 48 false (.bin .neq) 50 53,PT 55 48 54,MV 56 55,MG 57 56 false 3,P1 58 56 false (.call 37 true) 57,MG 59 56 false 5,P2 60 56 false (.call 36 true) 58 59,P1 61 56 false
 (.un UnOp.not) 60,PT 62 56 61]).seq (C.cond (.t 62) ((C.ops [MC 2 (.bool false)]).seq C.ret) C.skip)).seq (((C.ops [O1 63 (.fldA 4) 1,LD 64 63,O1 65 .len 64,MC 66 (i6 0)]).seq
 (C.block 0 ((C.ops [BI 67 .lss 66 65]).seq ((C.cond (.t 67) C.skip (C.exit 0)).seq ((C.block 1 ((C.ops [MV 68 66,O2 69 (.idxA 3) 64 66,O1 70 (.load (some 3)) 69,⟨some 10,none,
 .alloc 1 64 [i6 0,i6 0,.nl],[]⟩,MV 9 68,ST 3 10 70]).seq ((C.ops [O1 72 (.load (some 3)) 10,O1 73 (.fldA 6) 1,LD 74 73,O2 75 (.call 54 true) 72 74,MV 71 75,O1 76 (.ext 0)
 71,O1 77 (.ext 1) 71,MV 11 76,MV 12 77]).seq ((C.ops [MV 78 12,BC 79 .neq 78 (i6 0),MV 80 79,MG 81 80 false 11,MG 82 80 false 7,MG 83 80 false 9,P2 84 80 false (.idxA 1)
 82 83,P1 85 80 false (.load none) 84,P2 86 80 false (.bin .neq) 81 85,PT 87 80 86]).seq (C.cond (.t 87) ((C.ops [MC 2 (.bool false)]).seq C.ret) C.skip))))).seq (C.ops [BC 88
 .add 66 (i6 1),MV 66 88])))).loop)).seq (((C.ops [MV 89 3,O1 90 .len 89,MC 91 (i6 0)]).seq (C.block 2 ((C.ops [BI 92 .lss 91 90]).seq ((C.cond (.t 92) C.skip (C.exit 2)).seq
 ((C.block 3 ((C.ops [O2 93 (.idxA 7) 89 91,O1 94 (.load (some 7)) 93,⟨some 14,none,.alloc 2 36 [.str [],i6 0,i6 0,i6 0,.bool false,.bool false,.str []],[]⟩,ST 7 14
 94]).seq ((C.ops [O1 95 (.fldA 3) 14,LD 96 95,BC 97 .neq 96 (i6 (-1))]).seq (C.cond (.t 97) ((C.ops [MC 2 (.bool false)]).seq C.ret) C.skip)))).seq (C.ops [BC 98 .add 91 (i6 1),
 MV 91 98])))).loop)).seq ((C.ops [ON 99 (.call 40 true) [],MV 2 99]).seq
 C.ret))))))))))
theorem qyK:qL Tryz.prog 11 100 3 [RV.tmp 2] qCi:=fi Tryz.f11 [1,10,14] qut []
end
section
open Go Go.Proofs AF HY LN
namespace RC
theorem qAw(a:Cq)(h:List AObj)(hp:kV SG h)(hg:zS h frmN frmC)(hb:CqB a):ACalls Tryz.prog 11 [.agg (cqC a)] h (.bool true) h:=by
 obtain⟨q,hq⟩: ∃q:Cq,q=⟨a.x,a.l,[],a.lead⟩:=⟨_,rfl⟩
 have hb0:CqB q:=by rw[hq];exact⟨hb.x,hb.l,by simp⟩
 have c1:=fun l'=>(qDt q (h++l') hb0 (hp.app l') hg.app).le (args:= [.agg [.str a.x.sec,strs a.x.sig,qm a.x.tok,qx a.x.col,zQ a.l,.nl,.int .i64 a.lead]]) ⟨by
  rw[hq];exact VLe.agg ⟨qi,qi,qi,qi,qi,qW,qi,trivial⟩,trivial⟩ (qi)
 have c2:=fun l'=>qCd (h++l') (hp.app l') hg.app
 obtain⟨B,hB⟩: ∃B,B=mdB q:=⟨_,rfl⟩
 obtain⟨R,hR⟩: ∃R,R=mdR q:=⟨_,rfl⟩
 simp only[←hB,←hR]at c1;cases B with
 |false=>
  refine acO qyK ?_;simp (disch:=omega) only[qCi,cqC,go_sem]
  repeat' first
   |((first|refine cA (c1 _) ?_ ?_|refine cG (fun e=>c1 _) ?_ ?_|refine cA (c2 _) ?_ ?_|refine cG (fun e=>c2 _) ?_ ?_|refine cU (fun _=>c1 _) ?_ ?_|refine cU (fun _=>c2 _) ?_ ?_);exact flk;simp (disch:=omega) only[cqC,go_sem])
   |((first|apply qb|apply qd);exact rvk;simp only[go_sem];first|exact qi|apply qf|apply qe|apply jl|skip)
   |with_reducible first|intro _|apply aiA
  all_goals try exact clz
 |true=>
 obtain⟨z,e0,E,hRe⟩:=qDu hB.symm;rw[←hR]at hRe;have q1:q.x=a.x:=by rw[hq]
 have q2:q.l=a.l:=by rw[hq]
 have q3:q.d= []:=by rw[hq]
 have q4:q.lead=a.lead:=by rw[hq]
 rw[q1,q2,q3,q4]at E hRe;rw[q4]at e0;have zx:=z.x;have zu:=z.l;rw[q1]at zx;rw[q2]at zu;obtain⟨s,hs⟩: ∃s:Nat,a.lead=s:=⟨a.lead.toNat,om⟩
 rw[hs,itn]at E hRe;have hln:=E.ln;have hsl:=E.sl;have hlen:R.length=(rwA a.x a.l [] s).length:=by rw[hRe,kT]
 have hlim:vaE a.x a.l=0→(rwA a.x a.l [] (s:Int).toNat).length≤1000000000:=fun _=>by rw[itn];omega
 have c3:=fun l'=>qFZ a.x s (h++l') zx (hp.app l')
 have c4:=fun l'=>(qCz a.x a.l [] s (h++l') zx zu (hp.app l') hg.app (by simp) (by simp) hlim).le (args:= [.agg (coC a.x),zQ a.l,.nl,.int .i64 (s:Int)]) ⟨qi,qi,qW,qi,trivial⟩ (qi)
 have eE:esE a.x a.l [] s=0:=E.esE;have eR:esR a.x a.l [] s=R:=by unfold esR;rw[ipo eE,itn,hRe]
 have eT:txE a.x s=0:=by unfold txE;rw[ine (by simp[E.ca]),ine om]
 obtain⟨T,hT⟩: ∃T,T=qjw (a.x.tok.getD s []):=⟨_,rfl⟩
 have eTR:txR a.x s=T:=by unfold txR;rw[ipo eT,itn,hT]
 obtain⟨C,hC⟩: ∃C,C=chP a.l R a.l.length:=⟨_,rfl⟩
 have eC:chR a.x a.l [] s=C:=by unfold chR;rw[ipo eE,eR,hC]
 rw[eTR,eT]at c3;rw[eC,eE]at c4;have eW:qgd R=T:=by rw[hRe,hT];exact qmf E.us E.co E.sl
 have c5:=fun h=>qrV R h om
 rw[eW]at c5;have hTl:T.length≤1000000:=by rw[←eW];unfold qgd;rw[List.length_map];omega
 have c6:=fun h=>eqS T h om
 have hCl:C.length=a.l.length:=by rw[hC,qlh]
 have FC: ∀i,i<a.l.length→ ∃j:Nat,qoF (a.l.getD i default).rds s=j∧C.getD i 0=j:=fun i hi=>by
  obtain⟨j,h1,_,_,h4⟩:=qAV E.us hi hsl;refine⟨j,h1,?_⟩;have h5:C.getD i 0=chK a.l R i:=by
   rw[hC];unfold chP;rw[gdqA,List.getElem?_map,List.getElem?_range hi];rfl
  rw[h5];unfold chK;rw[hRe,qAI E hi,qra,ipo (by show (-1:Int)<0;omega)];exact h4
 have FD: ∀i,i<R.length→(R.getD i default).dec= -1:=fun i hi=>by
  rw[hRe,qw6 om];exact qqe _ (jj om)
 have zl1: ∀g,valL g .len [zQ a.l]= .int .i64 a.l.length:=fun _=>rfl
 have zl2: ∀g,okL g .len [zQ a.l]=True:=fun _=>eqt trivial
 have zC1: ∀g,valL g .len [qF C]= .int .i64 a.l.length:=fun _=>by rw[←hCl];rfl
 have zC2: ∀g,okL g .len [qF C]=True:=fun _=>eqt trivial
 have zR1: ∀g,valL g .len [qao R]= .int .i64 R.length:=fun _=>rfl
 have zR2: ∀g,okL g .len [qao R]=True:=fun _=>eqt trivial
 have qq:((a.l.length:Int)=a.l.length)=True:=eqt rfl;have hll:=zu.n;rw[hs]at c1;unfold coC at c3 c4;refine acO qyK ?_;simp (disch:=omega) only[qCi,cqC,hs,go_sem]
 repeat' first
  |((first|refine cA (c1 _) ?_ ?_|refine cG (fun e=>c1 _) ?_ ?_|refine cA (c3 _) ?_ ?_|refine cG (fun e=>c3 _) ?_ ?_|refine cA (c4 _) ?_ ?_|refine cG (fun e=>c4 _) ?_ ?_|refine cA (c5 _) ?_ ?_|refine cG (fun e=>c5 _) ?_ ?_|refine cA (c6 _) ?_ ?_|refine cG (fun e=>c6 _) ?_ ?_|refine cU (fun _=>c1 _) ?_ ?_|refine cU (fun _=>c3 _) ?_ ?_|refine cU (fun _=>c4 _) ?_ ?_|refine cU (fun _=>c5 _) ?_ ?_|refine cU (fun _=>c6 _) ?_ ?_);exact flk;simp (disch:=omega) only[cqC,hs,zl1,zl2,zC1,zC2,zR1,zR2,qq,go_sem])
  |((first|apply qb|apply qd);exact rvk;simp only[go_sem];first|exact qi|apply qf|apply qe|apply jl|skip)
  |with_reducible first|intro _|apply aiA
 all_goals try exact clz
 have zu0:zQ a.l= .sl a.l.length fun i=>unC (a.l.getD i default):=rfl
 have zc0:qF C= .sl C.length fun i=> [.int .i64 (C.getD i 0)]:=rfl
 have zr0:qao R= .sl R.length fun i=>wdC (R.getD i default):=rfl
 obtain⟨CX,hCX⟩: ∃CX,CX= [AV.str a.x.sec,strs a.x.sig,qm a.x.tok,qx a.x.col,zQ a.l,.nl,.int .i64 (s:Int)]:=⟨_,rfl⟩
 refine qu (T:=fun i:Nat×AObj=>ze 100 [(1,.op h.length 1 0),(3,qao R),(7,qF C),(64,zQ a.l),(65,.int .i64 a.l.length),(66,.int .i64 i.1)])
  (H:=fun i=>h++ [.mem 1 75 [.str a.x.sec,strs a.x.sig,qm a.x.tok,qx a.x.col,zQ a.l,.nl,.int .i64 (s:Int)],i.2,.emp 0])
  (inv:=fun i=>i.1≤a.l.length∧qI [i.2] 0=true) (m:=fun i=>a.l.length-i.1) (0,.emp 0) ⟨nzl _,rfl⟩ (Wk.temps ?_) ?_
 ·(simp only[go_sem,qh,qc,qa,qg];try (repeat' first|(with_reducible apply aiA)|(apply qf;omega)|(apply qe;rfl)|exact qi))
 rintro⟨i,O⟩ ⟨i1,i2⟩ K hK;simp only at i1 i2 hK;have i2': ∀m,qI (O::m) 0=true:=fun _=>i2
 by_cases hi:i<a.l.length
 ·have k1:((i:Int)<a.l.length)=True:=eqt om;obtain⟨j,r1,r2⟩:=FC i hi;have c7:=fun h=>qFy (a.l.getD i default) s h (zu.rd i) (zu.sr i)
  have eR1:qqT (a.l.getD i default).rds (s:Int)=j:=by unfold qqT;rw[r1,ine om]
  have eR2:qqS (a.l.getD i default).rds (s:Int)=0:=by unfold qqS;rw[r1,ine om]
  rw[eR1,eR2]at c7;obtain⟨u,hu⟩: ∃u,u=a.l.getD i default:=⟨_,rfl⟩
  have eu:=hu.symm;rw[eu]at c7;unfold unC at c7;have k2:((i:Int)<C.length)=True:=eqt om;have k3:(0≤(i:Int))=True:=eqt om;have k4:((j:Int)=j)=True:=eqt rfl;simp (disch:=omega) only[zu0,zc0,unC,k1,k2,k3,eu,i2',r2,go_sem]
  repeat' first
   |((first|refine cA (c7 _) ?_ ?_|refine cG (fun e=>c7 _) ?_ ?_|refine cU (fun _=>c7 _) ?_ ?_);exact flk;simp (disch:=omega) only[zu0,zc0,unC,k1,k2,k3,k4,eu,i2',r2,go_sem])
   |((first|apply qb|apply qd);exact rvk;simp only[go_sem];first|exact qi|apply qf|apply qe|apply jl|skip)
   |with_reducible first|intro _|apply aiA
  all_goals try exact clz
  refine hK _ _ (i+1,.mem (qp (some O)+1) 64 (unC u)) ⟨hi,rfl⟩ (by simp only;omega) ?_;simp only[unC];refine Wk.temps ?_
  (simp only[go_sem,qh,qc,qa,qg];try (repeat' first|(with_reducible apply aiA)|(apply qf;omega)|(apply qe;rfl)|exact qi))
 have k1:((i:Int)<a.l.length)=False:=eqf om;simp (disch:=omega) only[k1,zR1,zR2,go_sem]
 repeat' first
  |((first|apply qb|apply qd);exact rvk;simp only[go_sem];first|exact qi|apply qf|apply qe|apply jl|skip)
  |with_reducible first|intro _|apply aiA
 all_goals try exact clz
 refine qu (T:=fun i:Nat×AObj=>ze 100 [(89,qao R),(90,.int .i64 R.length),(91,.int .i64 i.1)])
  (H:=fun i=>h++ [.mem 1 75 [.str a.x.sec,strs a.x.sig,qm a.x.tok,qx a.x.col,zQ a.l,.nl,.int .i64 (s:Int)],O,i.2])
  (inv:=fun i=>i.1≤R.length∧qI [i.2] 0=true) (m:=fun i=>R.length-i.1) (0,.emp 0) ⟨nzl _,rfl⟩ (Wk.temps ?_) ?_
 ·(simp only[go_sem,qh,qc,qa,qg];try (repeat' first|(with_reducible apply aiA)|(apply qf;omega)|(apply qe;rfl)|exact qi))
 clear hK;rintro⟨i',P⟩ ⟨j1,j2⟩ K hK;simp only at j1 j2 hK;have j2': ∀m,qI (P::m) 0=true:=fun _=>j2
 by_cases hi':i'<R.length
 ·have k1:((i':Int)<R.length)=True:=eqt om;have hd:=FD i' hi';obtain⟨w,hw⟩: ∃w,w=R.getD i' default:=⟨_,rfl⟩
  have ew:=hw.symm;rw[ew]at hd;simp (disch:=omega) only[zr0,wdC,k1,ew,j2',hd,go_sem]
  repeat' first
   |((first|apply qb|apply qd);exact rvk;simp only[go_sem];first|exact qi|apply qf|apply qe|apply jl|skip)
   |with_reducible first|intro _|apply aiA
  all_goals try exact clz
  refine hK _ _ (i'+1,.mem (qp (some P)+1) 36 (wdC w)) ⟨hi',rfl⟩ (by simp only;omega) ?_;simp only[wdC,hd];refine Wk.temps ?_
  (simp only[go_sem,qh,qc,qa,qg];try (repeat' first|(with_reducible apply aiA)|(apply qf;omega)|(apply qe;rfl)|exact qi))
 have k1:((i':Int)<R.length)=False:=eqf om;simp (disch:=omega) only[k1,go_sem]
 repeat' first
  |((first|refine cA (c2 _) ?_ ?_|refine cG (fun e=>c2 _) ?_ ?_|refine cU (fun _=>c2 _) ?_ ?_);exact flk;simp (disch:=omega) only[k1,go_sem])
  |((first|apply qb|apply qd);exact rvk;simp only[go_sem];first|exact qi|apply qf|apply qe|apply jl|skip)
  |with_reducible first|intro _|apply aiA
 all_goals try exact clz
end RC
end
section
open Go Go.Proofs AF HY Go.ChangeShapes Go.RowKit
namespace LN
theorem qDj : Tryz.prog.globalNamed "internal/strconv.uint64pow10" = some 4 := by kernel_rfl
theorem qDl : Tryz.prog.globalNamed "strconv.ErrSyntax" = some 5 := by kernel_rfl
theorem qDk : Tryz.prog.globalNamed "strconv.ErrRange" = some 6 := by kernel_rfl
theorem qEv : Tryz.prog.globalNamed "apograph/transcript.forms" = some 3 := by kernel_rfl
theorem qqI{w w':World}(h:qsQ w)(e:w'.heap[4]? =w.heap[4]?):qsQ w':=by
 unfold qsQ Lib.TabIs at*;rw[qeS qDj e];exact h
theorem qgR : "*" ++ "errors.errorString" = "*errors.errorString" := by decide
theorem qsI (u : TypeId) (h : Tryz.prog.typeName? 3 u = some "*errors.errorString") : u = 329 :=
 typeName_ptr_named (nm := "errors.errorString") (by rw [qgR]; kernel_rfl) (by kernel_rfl) (by decide) u (by rw [qgR]; exact h)
structure Fr where
 s:List UInt8
 a:Bool
 b:Bool
 c:Bool
def Fr.av(r:Fr):List AV:= [.str r.s,.bool r.a,.bool r.b,.bool r.c]
def Fr.vl(r:Fr):List Value:= [.string ⟨r.s.toArray⟩,.bool r.a,.bool r.b,.bool r.c]
def Fr.da{H:Type}(r:Fr):DataW H:= .agg [.lit (.string r.s),.lit (.bool r.a),.lit (.bool r.b),.lit (.bool r.c)]
def frL:List Fr:= [⟨[],false,false,false⟩,⟨[],true,false,false⟩,⟨[108,98],false,false,false⟩,⟨[112,98],true,false,false⟩,⟨[115,101,99],true,false,false⟩,⟨[118],false,false,false⟩,
 ⟨[103,97,112],false,true,false⟩,⟨[117,110,99,108,101,97,114],false,false,true⟩,⟨[97,100,100],false,true,true⟩,⟨[100,101,108],false,true,true⟩,⟨[97,98],true,false,true⟩,⟨[110,97,109,101],true,false,true⟩]
theorem qAa:RC.frmC=frL.flatMap Fr.av:=rfl
theorem qAb:(YthjkfdakolejgaaGreatDoor.Rows.laid_apograph_transcript_forms:DataW Unit)= .agg (frL.map Fr.da):=rfl
theorem qCW{α β:Type}{f:α→List β}(hf: ∀a,(f a).length=4): ∀(l:List α) (i j:Nat),j<4→(l.flatMap f)[i*4+j]? =(l[i]?).bind fun a=>(f a)[j]? :=by
 intro l
 induction l with
 |nil=>intro i j _;simp
 |cons a l ih=>
  intro i j hj;rw[List.flatMap_cons];cases i with
  |zero=>
   rw[Nat.zero_mul,Nat.zero_add,List.getElem?_append_left (by rw[hf];exact hj)];rfl
  |succ i=>
   rw[List.getElem?_append_right (by rw[hf];omega),hf,show (i+1)*4+j-4=i*4+j by omega,ih i j hj];rfl
theorem qdG:Tryz.prog.cellsOf 300=4:=by kernel_rfl
theorem qgj:Tryz.prog.cellsOf 301=48:=by kernel_rfl
theorem qpg:Tryz.prog.cellsOf 9=1:=by kernel_rfl
theorem qpe:Tryz.prog.cellsOf 4=1:=by kernel_rfl
theorem qA6{H:Type}{enc:TypeId×Value→H}{w:World}{base fuel:Nat}{spare:Nat→Bool}{held:Bool}{cs:List Value}{x:DataW H×List MemPlace}{r:Fr}
  (h:DataW.trod enc Tryz.prog w base spare held fuel 300 cs=some x) (hx:x.1=r.da):cs=r.vl:=by
 obtain⟨xs,n,_,hxe,hl,hxl,hf⟩:=DataW.trod_struct Tryz.underlying300 h;rw[qdG]at hl
 match cs,hl with
 | [v0,v1,v2,v3],_=>
 match xs,hxl with
 | [y0,y1,y2,y3],_=>
  have h0:DataW.trod enc Tryz.prog w base spare held n 9 (([v0,v1,v2,v3].drop 0).take (Tryz.prog.cellsOf 9))= [y0,y1,y2,y3][0]? :=hf 0 _ rfl;have h1:DataW.trod enc Tryz.prog w base spare held n 4 (([v0,v1,v2,v3].drop 1).take (Tryz.prog.cellsOf 4))= [y0,y1,y2,y3][1]? :=hf 1 _ rfl;have h2:DataW.trod enc Tryz.prog w base spare held n 4 (([v0,v1,v2,v3].drop 2).take (Tryz.prog.cellsOf 4))= [y0,y1,y2,y3][2]? :=hf 2 _ rfl;have h3:DataW.trod enc Tryz.prog w base spare held n 4 (([v0,v1,v2,v3].drop 3).take (Tryz.prog.cellsOf 4))= [y0,y1,y2,y3][3]? :=hf 3 _ rfl;rw[qpg]at h0;rw[qpe]at h1 h2 h3;obtain⟨s,e0,x0,_⟩:=DataW.trod_string Tryz.underlying9 h0;obtain⟨b1,e1,x1⟩:=DataW.trod_bool Tryz.underlying4 h1;obtain⟨b2,e2,x2⟩:=DataW.trod_bool Tryz.underlying4 h2;obtain⟨b3,e3,x3⟩:=DataW.trod_bool Tryz.underlying4 h3;have hy:([y0,y1,y2,y3]:List (DataW H×List MemPlace)).map (·.1)= [.lit (.string r.s),.lit (.bool r.a),.lit (.bool r.b),.lit (.bool r.c)]:=by
   have hx:=hxe▸hx;exact DataW.agg.inj hx
  rw[x0,x1,x2,x3]at hy;simp at hy e0 e1 e2 e3;obtain⟨g0,g1,g2,g3⟩:=hy;unfold Fr.vl;subst e0 e1 e2 e3;rw[←g0,g1,g2,g3]
theorem qDi {W : World} {rest : List (String × DataW Unit)} (h : laidMet Tryz.prog (("apograph/transcript.forms", YthjkfdakolejgaaGreatDoor.Rows.laid_apograph_transcript_forms) :: rest) W) : qib 3 RC.frmC W := by
 obtain⟨ps,⟨g',t',cs,fuel,p,q,hg',ht',hvar,hd,_,_⟩,_⟩:=h;obtain rfl:=Option.some.inj (qEv.symm.trans hg');obtain rfl:301=t':=Option.some.inj ((show (Tryz.prog.globals[3]?).map (·.type)=some 301 by kernel_rfl).symm.trans ht');obtain⟨xs,m,_,hxe,hl,hxl,hr⟩:=DataW.trod_array Tryz.underlying301 hd;rw[qgj]at hl;have hxm:xs.map (·.1)=frL.map Fr.da:=by
  have:=congrArg Prod.fst hxe
  rw[qAb]at this;exact (DataW.agg.inj this).symm
 have rows: ∀i r,frL[i]? =some r→(cs.toList.drop (i*4)).take 4=r.vl:=fun i r hi=>by
  have hil:i<12:=(lgs.1 hi).1;have e1:(xs.map (·.1))[i]? =some r.da:=by rw[hxm,List.getElem?_map,hi];rfl
  rw[List.getElem?_map,Option.map_eq_some_iff]at e1;obtain⟨y,hy,hy1⟩:=e1;have h1:=hr i hil;rw[hy,qdG]at h1;exact qA6 h1 hy1
 have hv: ∃T fz,W.heap[3]? =some (.cells cs T fz):=by
  unfold World.var? at hvar;rw[qEv]at hvar;simp only[Option.bind_some]at hvar;split at hvar
  ·rename_i c T fz hc;cases hvar;exact⟨_,_,hc⟩
  ·cases hvar
 obtain⟨T,fz,hc⟩:=hv;refine⟨cs,T,fz,hc,?_,?_⟩
 ·have:cs.size=48:=by simpa using hl
  rw[this];exact Nat.le_of_eq rfl
 intro i c x hi hx;have hij:i=i/4*4+i%4:=by omega
 rw[qAa,hij,qCW (fun _=>rfl) frL _ _ (Nat.mod_lt _ (by decide)),Option.bind_eq_some_iff]at hi;obtain⟨r,hr1,hr2⟩:=hi;have h2:=rows _ _ hr1;have h3:r.vl[i%4]? =some x:=by
  rw[←h2,List.getElem?_take,ipo (Nat.mod_lt _ (by decide)),List.getElem?_drop,←hij];simpa using hx
 have h4:i%4<4:=Nat.mod_lt _ (by decide);obtain⟨j,hj⟩: ∃j,j=i%4:=⟨_,rfl⟩
 rw[←hj]at hr2 h3 h4
 match j,h4 with
 |0,_=>cases hr2;cases h3;exact⟨rfl,fun _ _=> .str⟩
 |1,_=>cases hr2;cases h3;exact⟨rfl,fun _ _=> .bool⟩
 |2,_=>cases hr2;cases h3;exact⟨rfl,fun _ _=> .bool⟩
 |3,_=>cases hr2;cases h3;exact⟨rfl,fun _ _=> .bool⟩
theorem qub{w w':World}(h:qib 3 RC.frmC w)(e:w'.heap[3]? =w.heap[3]?):qib 3 RC.frmC w':=by
 obtain⟨arr,T,fz,h1,h2⟩:=h;exact⟨arr,T,fz,e.trans h1,h2⟩
def qcz:List Nat:= [3,4,5,6]
def qBj(w:World):Prop:=RC.SG w∧qib 3 RC.frmC w
theorem qBk{W:World}(h:laidMet Tryz.prog YthjkfdakolejgaaGreatDoor.Rows.decisionSpacesRow.laid W):qsQ W∧qBY W∧qib 3 RC.frmC W:=by
 have h2:=laidMet.tail (laidMet.tail h);have h3:=laidMet.tail h2;have h4:=laidMet.tail h3;have h5:=laidMet.tail h4;obtain⟨a,s,e1,_⟩:=laid_sentinel (g:=6) (ti:=158) (tp:=329) (te:=331) (ts:=9) h3 qDk (by kernel_rfl) Tryz.underlying158 qsI Tryz.underlying329 Tryz.underlying331 rfl rfl Tryz.underlying9 (by kernel_rfl) (by kernel_rfl);obtain⟨b,t,e2,_⟩:=laid_sentinel (g:=5) (ti:=158) (tp:=329) (te:=331) (ts:=9) h4 qDl (by kernel_rfl) Tryz.underlying158 qsI Tryz.underlying329 Tryz.underlying331 rfl rfl Tryz.underlying9 (by kernel_rfl) (by kernel_rfl);exact⟨Lib.tabIs_of_head (t:=308) (e:=213) (n:=20) qDj (by kernel_rfl) Tryz.underlying308 Tryz.underlying213 (by kernel_rfl) (by kernel_rfl) h2,⟨⟨_,_,e2⟩,_,_,e1⟩,qDi h5⟩
theorem qrd{W:World}(h:laidMet Tryz.prog YthjkfdakolejgaaGreatDoor.Rows.decisionSpacesRow.laid W): ∀b,b∈qcz→ ∃arr T fz,W.heap[b]? =some (.cells arr T fz):=by
 intro b hb;obtain⟨h1,⟨⟨_,_,h2⟩,_,_,h3⟩,arr,T,fz,h4,_⟩:=qBk h;have e:b=3∨b=4∨b=5∨b=6:=by simpa[qcz] using hb
 rcases e with rfl|rfl|rfl|rfl
 ·exact⟨_,_,_,h4⟩
 ·exact qdk qDj h1
 ·exact qdk qDl h2
 ·exact qdk qDk h3
theorem qvC{W:World}(h:laidMet Tryz.prog YthjkfdakolejgaaGreatDoor.Rows.decisionSpacesRow.laid W): ∀w':World,(∀b,b∈qcz→w'.heap[b]? =W.heap[b]?)→qBj w':=by
 intro w' hs;obtain⟨h1,⟨⟨t1,p1,h2⟩,t2,p2,h3⟩,h4⟩:=qBk h;refine⟨⟨qqI h1 (hs 4 (by simp[qcz])),⟨t1,p1,?_⟩,t2,p2,?_⟩,qub h4 (hs 3 (by simp[qcz]))⟩
 ·rw[qeS qDl (hs 5 (by simp[qcz]))];exact h2
 ·rw[qeS qDk (hs 6 (by simp[qcz]))];exact h3
theorem qvB:kV RC.SG [.pin qcz qBj]:=⟨0,_,_,rfl,fun _ h=>h.1⟩
theorem qvA:zS [.pin qcz qBj] RC.frmN RC.frmC:=⟨0,_,_,rfl,by simp[qcz],fun _ h=>h.2⟩
end LN
end
