import Derived.Test.YthjkfdakolejgaaGreatDoorK16
import Derived.Test.YthjkfdakolejgaaGreatDoorK14
import Derived.Test.YthjkfdakolejgaaGreatDoorK12
import Derived.Test.YthjkfdakolejgaaGreatDoorK3
import Derived.Test.YthjkfdakolejgaaGreatDoorK5
import Derived.Test.YthjkfdakolejgaaGreatDoorK8
import Derived.Test.YthjkfdakolejgaaGreatDoorProg
import Derived.Test.YthjkfdakolejgaaGreatDoorK15
import Derived.Test.YthjkfdakolejgaaGreatDoorK9
import Derived.Test.YthjkfdakolejgaaGreatDoorRows
import Derived.LaidLaws
import Derived.OpenShut
set_option linter.all false
set_option linter.unusedSimpArgs false
set_option linter.unusedVariables false
set_option linter.unusedSectionVars false
set_option maxHeartbeats 128000000
set_option maxRecDepth 100000
section
open Go Go.Proofs AF HY LN
namespace RC
theorem qB2(h:List AObj):ACalls Tryz.prog 81 [.nl] h .nl h:=by
 refine acO qtY ?_;simp (disch:=omega) only[qBw,go_sem]
 repeat' first
  |(apply qb;exact rvk;simp only[go_sem];exact qi)
theorem qE4(a:Int)(h:List AObj):ACalls Tryz.prog 78 [qG [a],.int .i64 0] h (qG []) h:=by
 have s1:=fun h=>qhK h [a]
 have c1:=fun h=>qD3 0 h om
 have z1: ∀g,valL g .len [qG [a]]= .int .i64 1:=fun _=>rfl
 have z2: ∀g,okL g .len [qG [a]]=True:=fun _=>eqt trivial
 have e5:IntKind.u64.wrap 1=1:=by decide
 have e6:IntKind.u64.wrap 0=0:=by decide
 rw[show ((0:Nat):Int)=0 from rfl]at c1;refine acO qzk ?_;simp (disch:=omega) only[qBT,z1,z2,e5,e6,go_sem]
 repeat' first
  |(refine cA (c1 _) flk ?_;simp (disch:=omega) only[s1,go_sem])
  |with_reducible first|intro _|apply aiA
 all_goals try exact clz
 ·rfl
 refine qt (T:=fun _:Unit=>qY 48 [(7,.osl (h.length+1) 1 1 0 0),(8,.int .i64 0)]) (H:=fun _=>h++ [.emp 1,.mem 1 3 []])
  (inv:=fun _=>True) (m:=fun _=>0) () trivial (Wk.temps ?_) ?_
 ·(simp only[go_sem,qh,qc,qa,qg];try (repeat' first|(with_reducible apply aiA)|(apply qf;omega)|(apply qe;rfl)|exact qi))
 rintro⟨⟩-K hK;have q1:((0:Int)<0)=False:=eqf om;simp (disch:=omega) only[go_sem]
 repeat' first
  |(apply qb;exact rvk;simp only[go_sem])
  |with_reducible first|intro _|apply aiA
 all_goals try exact clz
 exact VLe.sl_eq rfl (fun i hi=>absurd hi (nnz _))
theorem qAk{hh:List AObj}{j v:Nat}(a:Int)(cs:List AV)(hj:qr j hh=some (.mem v 3 (.int .i64 a::cs))):
  ACalls Tryz.prog 78 [.osl j v 1 0 1,.int .i64 0] hh (qG []) (qo j hh (.emp (v+1))):=by
 have hs:qI hh j=true:=by unfold qI;rw[hj]
 have e1:qdq [j] hh=qo j hh (.emp (v+1)):=by show qo j hh (.emp (qq (qr j hh)+1))=_;rw[hj];rfl
 refine ACalls.frzd [j] (by show (qI hh j&&true)=true;rw[hs];rfl) ?_;rw[e1];refine (qE4 a _).le ⟨?_,qi,trivial⟩ (qi);have hc:=qQ hj;have e: [j].contains j=true:=by simp
 simp only[go_sem,e,if_true,hc];rw[hj,slOf_mem,ipo ⟨rfl,by simp⟩];refine VLe.sl_eq rfl (fun i hi=> ?_);obtain rfl:i=0:=by omega
 rfl
theorem qCi(x:Co)(d:List Dc)(s:Int)(h:List AObj)(hz:qdA x)(hp:kR SG h)(hg:zS h frmN frmC)(hd:d.length≤1000000)(ht: ∀o∈d,o.txt.length≤1000)(hN0:vaE x []=0→(rwA x [] d s.toNat).length≤1000000000):
  ACalls Tryz.prog 25 [.agg (coC x),.nl,qaz d,.int .i64 s] h (.tup [qbb (esR x [] d s),.int .i64 (esE x [] d s)]) h:=by
 have hu:qjE []:=⟨by simp,fun i=>by simp;exact nzl _,fun i j=>by simp;exact nzl _,fun i j=>by simp;exact nzl _⟩
 have c1:=fun l'=>(qtl x [] (h++l') hz hu (hp.app l')).le (args:= [.agg (coC x),.nl]) ⟨qi,zg,trivial⟩ (qi)
 have zu: ∀g l,valL g .len [jc l]= .int .i64 l.length:=fun _ _=>rfl
 have zv: ∀g l,okL g .len [jc l]=True:=fun _ _=>eqt trivial
 have zu1: ∀g l,valL g .len [strs l]= .int .i64 l.length:=fun _ _=>rfl
 have zv1: ∀g l,okL g .len [strs l]=True:=fun _ _=>eqt trivial
 have hE:esE x [] d s=(if vaE x []≠0 then vaE x [] else if s<0∨(x.sig.length:Int)≤s then 2 else if qbY x [] d≠0 then qbY x [] d else if 1024<(rwA x [] d s.toNat).length then 4 else 0):=rfl;unfold esR
 by_cases g:vaE x []=0
 case neg=>
  have k1:(vaE x []=0)=False:=eqf g;rw[ipo g]at hE;rw[hE,ine g];unfold coC at c1;refine acO qa1 ?_;simp (disch:=omega) only[qfZ,coC,go_sem]
  repeat' first
   |(refine cA (c1 _) flk ?_;simp (disch:=omega) only[k1,go_sem])
   |(apply qb;exact rvk;simp only[go_sem])
  exact VLe.tup ⟨zg,qi,trivial⟩
 rw[ine (by simpa using g)]at hE;have hN:=hN0 g;simp only[g]at c1;obtain⟨hca,hus,hcv⟩:=qfT g;have ho:=qbh hca
 by_cases g2:s<0
 ·have k2:(s<0)=True:=eqt g2;rw[ipo (.inl g2)]at hE;rw[hE,ine (by decide)];unfold coC at c1;refine acO qa1 ?_;simp (disch:=omega) only[qfZ,coC,go_sem]
  repeat' first
   |(refine cA (c1 _) flk ?_;simp (disch:=omega) only[k2,go_sem])
   |(apply qb;exact rvk;simp only[go_sem])
  exact VLe.tup ⟨zg,qi,trivial⟩
 have k2:(s<0)=False:=eqf g2
 by_cases g3:(x.sig.length:Int)≤s
 ·have k3:((x.sig.length:Int)≤s)=True:=eqt g3;rw[ipo (.inr g3)]at hE;rw[hE,ine (by decide)];unfold coC at c1;refine acO qa1 ?_;simp (disch:=omega) only[qfZ,coC,go_sem]
  repeat' first
   |(refine cA (c1 _) flk ?_;simp (disch:=omega) only[k2,k3,zu1,zv1,go_sem])
   |(apply qb;exact rvk;simp only[go_sem])
  exact VLe.tup ⟨zg,qi,trivial⟩
 have k3:((x.sig.length:Int)≤s)=False:=eqf g3;rw[ine (fun e=>e.elim g2 g3)]at hE;have c2:=fun l'=>(qC2 x [] d (h++l') hz hu (hp.app l') hg.app hca hd ht).le (args:= [.agg (coC x),.nl,qaz d]) ⟨qi,zg,qi,trivial⟩ (qi)
 unfold qz3 at c2
 by_cases g4:qbY x [] d=0
 case neg=>
  have k4:(qbY x [] d=0)=False:=eqf g4;simp only[ine g4]at c2;rw[ipo g4]at hE;rw[hE,ine g4];unfold coC at c1 c2;refine acO qa1 ?_;simp (disch:=omega) only[qfZ,coC,go_sem]
  repeat' first
   |((first|refine cA (c1 _) ?_ ?_|refine cA (c2 _) ?_ ?_);exact flk;simp (disch:=omega) only[k2,k3,k4,zu1,zv1,go_sem])
   |(apply qb;exact rvk;simp only[go_sem])
   |with_reducible apply aiA
  all_goals try exact clz
  exact VLe.tup ⟨zg,qi,trivial⟩
 rw[ine (by simpa using g4)]at hE;simp only[g4,if_true]at c2;rw[hE];unfold coC at c1 c2;refine acO qa1 ?_;simp (disch:=omega) only[qfZ,coC,go_sem]
 repeat' first
  |((first|refine cA (c1 _) ?_ ?_|refine cA (c2 _) ?_ ?_);exact flk;simp (disch:=omega) only[k2,k3,zu1,zv1,go_sem])
  |with_reducible apply aiA
 all_goals try exact clz
 have hd0:d= []:=by
  cases d with
  |nil=>rfl
  |cons o r=>
   exfalso
   have:=g4
   unfold qbY at this;split at this
   ·cases this
   ·have h0:=jO.1 this 0 (by simp);have h1:=(qbX h0).2.2.2.2.1;have h2:qaq x [] ((o::r).getD 0 default)= -1:=rfl;omega
 subst hd0;have zi: ∀g l,valL g .len [qG l]= .int .i64 l.length:=fun _ _=>rfl
 have zj: ∀g l,okL g .len [qG l]=True:=fun _ _=>eqt trivial
 have ePL:(plG x [] [] ([]:List Dc).length).length=0:=rfl;refine qy (qAk (j:=h.length+2) (-1) (List.drop 1 (ze [.int .i64 0] 1)) ?j1) (by exact flk) ?_
 case j1=>simp only[go_sem]
 simp (disch:=omega) only[zi,zj,go_sem];refine qt (T:=fun _:Unit=>qY 154 [(1,.nl),(3,.int .i64 s),(4,.op h.length 1 0),(13,qG []),(56,.int .i64 0),(57,.int .i64 0)])
  (H:=fun _=>h++ [.mem 1 26 [.str x.sec,strs x.sig,qm x.tok,qv x.col],.emp 1,.emp 2,.emp 0,.emp 0,.emp 0,.emp 0,.emp 0,.emp 0,.emp 0,.emp 0,.emp 0,.emp 0,.emp 0,.emp 0,.emp 0])
  (inv:=fun _=>True) (m:=fun _=>0) () trivial (Wk.temps ?_) ?_
 ·(simp only[go_sem,qh,qc,qa,qg];try (repeat' first|(with_reducible apply aiA)|(apply qf;omega)|(apply qe;rfl)|exact qi))
 rintro⟨⟩-K hK;have q1:((0:Int)<0)=False:=eqf om;simp (disch:=omega) only[q1,go_sem];refine⟨_,_,Wk.ownNil (j:=h.length+3) (i:=0) (k:=h.length+15) (v:=1) (ty:=29) (cs:= [.nl]) (ve:=0) (sz:=7) ?m1 rfl ?m2,?_⟩
 case m1=>simp only[go_sem]
 case m2=>simp only[go_sem]
 simp (disch:=omega) only[List.set_cons_zero,go_sem];have bne5:(h.length+6 !=h.length+5)=true:=by simp
 have zc: ∀g l,valL g .len [qv l]= .int .i64 l.length:=fun _ _=>rfl
 have zd: ∀g l,okL g .len [qv l]=True:=fun _ _=>eqt trivial
 refine ku ?T ?H ?h1 ?h2
 case h1=>
  simp (disch:=omega) only[zc,zd,go_sem]
  repeat' first
   |(with_reducible apply aiA)
   |(refine qy (qB2 _) (by exact flk) ?_;simp (disch:=omega) only[zc,zd,go_sem])
  all_goals first
   |omega
   |rfl
   |exact bne5
 case h2=>
 simp (disch:=omega) only[go_sem];obtain⟨S,hS⟩: ∃S:Nat,s=S:=⟨s.toNat,om⟩
 subst hS;rw[itn]at hN ⊢;have hSl:S<x.sig.length:=by omega
 obtain⟨MC,hMC⟩: ∃MC,MC= [AV.int .i64 x.col.length,.int .i64 x.col.length,.nl]:=⟨_,rfl⟩
 rw[←hMC];obtain⟨O5,hO5⟩: ∃O5,O5=AObj.mem 1 64 (AV.int .i64 x.col.length:: .int .i64 x.col.length:: .nl::List.drop 3 (ze [.int .i64 0,.int .i64 0,.nl] 1)):=⟨_,rfl⟩
 rw[←hO5];obtain⟨X0,hX0⟩: ∃X0,X0=AObj.mem 1 26 [.str x.sec,strs x.sig,qm x.tok,qv x.col]:=⟨_,rfl⟩
 have lX0: ∀n,lowO n X0:=by
  intro n;rw[hX0];intro c hc;simp at hc;rcases hc with rfl|rfl|rfl|rfl<;>rfl
 refine qt (T:=fun i:EsS=>qY 154 [(1,.nl),(3,.int .i64 (S:Int)),(4,.op h.length 1 0),(13,qG []),(16,.op (h.length+3) 1 0),(17,.op (h.length+4) 1 0),(18,.int .i64 (nxT x [] i.k:Int)),(78,.osl (h.length+6) 1 3 0 1),(79,.int .i64 1),(80,.int .i64 i.k)])
  (H:=fun i=>h++ [.mem 1 26 [.str x.sec,strs x.sig,qm x.tok,qv x.col],.emp 1,.emp 2,.mem 1 29 [.osl (h.length+15) i.vb 7 0 (rwK x [] [] S i.k).length],.mem 1 117 [.fn (.func 79) [] [.op (h.length+3) 1 0]],O5,.mem 1 64 MC,i.O7,i.O8,i.O9,i.O10,i.O11,i.O12,.emp 0,.emp 0,qZ i.vb 36 (jv (bsW (rwK x [] [] S i.k)))])
  (inv:=fun i=>i.k≤1∧ ∀O∈ [i.O7,i.O8,i.O9,i.O10,i.O11,i.O12],qI [O] 0=true∧ ∀n,lowO n O) (m:=fun i=>1-i.k) ⟨0,0,.emp 0,.emp 0,.emp 0,.emp 0,.emp 0,.emp 0⟩ ⟨nzl _,fun O hO=>by
   simp at hO;subst hO;exact⟨rfl,fun _=>trivial⟩⟩ (Wk.temps ?_) ?_
 ·(simp only[go_sem,qh,qc,qa,qg];try (repeat' first|(with_reducible apply aiA)|(apply qf;omega)|(apply qe;rfl)|exact qi))
  done
 rintro⟨k,vb,O7,O8,O9,O10,O11,O12⟩ ⟨i1,i2⟩ K hK;simp only at i1 i2 hK;obtain⟨s7,l7⟩:=i2 O7 (by simp);obtain⟨s8,l8⟩:=i2 O8 (by simp);obtain⟨s9,l9⟩:=i2 O9 (by simp);obtain⟨s10,l10⟩:=i2 O10 (by simp);obtain⟨s11,l11⟩:=i2 O11 (by simp);obtain⟨s12,l12⟩:=i2 O12 (by simp);have s7': ∀m,qI (O7::m) 0=true:=fun _=>s7
 have s8': ∀m,qI (O8::m) 0=true:=fun _=>s8
 by_cases hk:k≤0
 case neg=>
  have q1:((k:Int)<(1:Int))=False:=eqf om;have eR:rwK x [] [] S k=rwA x [] [] S:=by unfold rwK;rw[lnl,ine hk]
  rw[eR]
  by_cases g5:1024<(rwA x [] [] S).length
  ·have q5:((1024:Int)<(rwA x [] [] S).length)=True:=eqt om;simp only[ipo g5];simp (disch:=omega) only[q1,q5,go_sem]
   repeat' first
    |(apply qb;exact rvk;simp only[go_sem])
    |with_reducible apply aiA
   all_goals try exact clz
   exact VLe.tup ⟨zg,qi,trivial⟩
  ·have q5:((1024:Int)<(rwA x [] [] S).length)=False:=eqf om;simp only[ine g5];simp (disch:=omega) only[q1,q5,go_sem]
   repeat' first
    |(apply qb;exact rvk;simp only[go_sem])
    |with_reducible apply aiA
   all_goals try exact clz
   exact VLe.tup ⟨qeC (qad _).symm,qi,trivial⟩
 have q1:((k:Int)<(1:Int))=True:=eqt om;have q2:(0≤(k:Int))=True:=eqt om;have hk0:k=0:=by omega
 have hMl:MC.length=3:=by rw[hMC];rfl
 have q3:(k*3+3≤MC.length)=True:=eqt om;have eR:rwK x [] [] S k=rwL x [] [] S k:=by unfold rwK;rw[lnl,ipo hk]
 have eN:nxT x [] k=jf [] k:=by unfold nxT;rw[lnl,ipo hk]
 rw[eR,eN];obtain⟨f,hf⟩: ∃f,f=x.col.length:=⟨_,rfl⟩
 obtain⟨t',ht'⟩: ∃t',t'=x.col.length:=⟨_,rfl⟩
 obtain⟨RV,hRV⟩: ∃RV,RV=AV.nl:=⟨_,rfl⟩
 have eM:List.take 3 (List.drop (k*3) MC)= [.int .i64 (f:Int),.int .i64 (t':Int),RV]:=by rw[hk0,hMC,hf,ht',hRV];rfl
 have a5:jf [] k≤f:=by rw[hk0];exact nzl _
 have a6:f≤x.col.length:=by omega
 have lRV: ∀n,qU n RV=true:=fun n=>by rw[hRV];rfl
 have c3:=fun h=>qAA x (jf [] k) f S h
 have hit:=itS x S (jf [] k) f hz ho hSl a6 a5;have hpF:=qaD ho hSl (f:=jf [] k) (d:=f-jf [] k) om;obtain⟨ps,hps⟩: ∃ps,ps=spk x S (jf [] k) (f-jf [] k):=⟨_,rfl⟩
 have hxl:(spX x S (jf [] k) (f-jf [] k))=ps.map fun p=> [.agg (pcC p)]:=by unfold spX;rw[hps]
 rw[hxl]at hit;rw[←hps]at hpF;unfold coC at c3 hit;simp (disch:=omega) only[q1,q2,q3,eM,s7',s8',go_sem]
 repeat' first
  |(refine cA (c3 _) flk ?_;simp (disch:=omega) only[go_sem])
  |with_reducible apply aiA
 all_goals try exact clz
 obtain⟨L0,hL0⟩: ∃L0,L0=rwL x [] [] S k:=⟨_,rfl⟩
 have hLF: ∀r∈L0,PcF r.p:=by rw[hL0];exact qgp ho hus hSl (fun i hi=>absurd hi (by simp)) hk
 have hLn:(L0++rwM ps (-1) (-1)).length≤1000000000:=by
  refine Nat.le_trans ?_ hN;rw[hL0,hps,hf,hk0];exact nlr _
 rw[←hL0];obtain⟨P7,hP7⟩: ∃P7,P7=AObj.mem (qq (some O7)+1) 3 [.int .i64 (k:Int)]:=⟨_,rfl⟩
 obtain⟨P8,hP8⟩: ∃P8,P8=AObj.mem (qq (some O8)+1) 64 [.int .i64 (f:Int),.int .i64 (t':Int),RV]:=⟨_,rfl⟩
 have hP7l:qI [P7] 0=true∧ ∀n,lowO n P7:=by
  rw[hP7];refine⟨rfl,fun n c hc=> ?_⟩;rw[List.mem_singleton]at hc;subst hc;rfl
 have hP8l:qI [P8] 0=true∧ ∀n,lowO n P8:=by
  rw[hP8];refine⟨rfl,fun n c hc=> ?_⟩;simp only[List.mem_cons,List.not_mem_nil,or_false]at hc;rcases hc with rfl|rfl|rfl
  ·rfl
  ·rfl
  ·exact lRV n
 have cP7: ∀m,cellsOf (P7::m) 0 (qq (some O7)+1)=some [.int .i64 (k:Int)]:=fun m=>by rw[hP7];simp only[go_sem]
 rw[←hP7,←hP8];have lP: ∀L:List Rw,∀v n,lowO n (qZ v 36 (jv (bsW L))):=fun L v n=>jp (qcS _ n)
 have hLow: ∀(L M:List Rw) (v w:Nat) O A,(∀n,lowO n A)→LowI (h++ [.mem 1 26 [.str x.sec,strs x.sig,qm x.tok,qv x.col],.emp 1,.emp 2,.mem 1 29 [.osl (h.length+15) w 7 0 M.length],.mem 1 117 [.fn (.func 79) [] [.op (h.length+3) 1 0]],O5,.mem 1 64 MC,P7,P8,O,O10,O11,O12,.emp 0,.emp 0,qZ w 36 (jv (bsW M))])
   (h++ [.mem 1 26 [.str x.sec,strs x.sig,qm x.tok,qv x.col],.emp 1,.emp 2,.mem 1 29 [.osl (h.length+15) v 7 0 L.length],.mem 1 117 [.fn (.func 79) [] [.op (h.length+3) 1 0]],O5,.mem 1 64 MC,P7,P8,A,O10,O11,O12,.emp 0,.emp 0,qZ v 36 (jv (bsW L))]):=fun L M v w O A lA=>by
  refine⟨by simp,fun o ho=> ?_⟩;rcases List.mem_append.1 ho with h1|h1
  ·exact .inl (List.mem_append_left _ h1)
  ·simp only[List.mem_cons,List.not_mem_nil,or_false]at h1;rcases h1 with rfl|rfl|rfl|rfl|rfl|rfl|rfl|rfl|rfl|rfl|rfl|rfl|rfl|rfl|rfl|rfl
   ·left;simp
   ·left;simp
   ·left;simp
   ·right;refine⟨fun c hc=> ?_,fun c hc=> ?_⟩<;>
    ·rw[List.mem_singleton]at hc;subst hc;simp[qU]
     try omega
   ·left;simp
   ·left;simp
   ·left;simp
   ·left;simp
   ·left;simp
   ·right;exact⟨lA _,lA _⟩
   ·left;simp
   ·left;simp
   ·left;simp
   ·left;simp
   ·left;simp
   ·right;exact⟨lP _ _ _,lP _ _ _⟩
 refine zk hit (fun a ha=> ?_)
  (S:=fun i hh=> ∃A,qI [A] 0=true∧(∀n,lowO n A)∧hh=h++ [.mem 1 26 [.str x.sec,strs x.sig,qm x.tok,qv x.col],.emp 1,.emp 2,.mem 1 29 [.osl (h.length+15) (vb+i) 7 0 (L0++rwM (ps.take i) (-1) (-1)).length],.mem 1 117 [.fn (.func 79) [] [.op (h.length+3) 1 0]],O5,.mem 1 64 MC,P7,P8,A,O10,O11,O12,.emp 0,.emp 0,qZ (vb+i) 36 (jv (bsW (L0++rwM (ps.take i) (-1) (-1))))]) (E:=fun _ _=>False) ?_ ?_ ?_ ?_ ?_ ?_ ?_
 ·obtain⟨c,_,rfl⟩:=List.mem_map.1 ha;rfl
 ·rintro i hh ⟨A,_,lA,rfl⟩;exact hLow _ _ _ _ _ _ lA
 ·intro s hh hf;exact hf.elim
 ·exact⟨O9,s9,l9,by simp[rwM]⟩
 ·simp[qU,qU.lowVs]
  repeat' apply aiA
  all_goals first|rfl|omega|exact lRV _
 ·rintro i hh tl LI TS hi ⟨A,sA,lA,rfl⟩ hlen K1 K2 hK1 hN1 hR1 hX1;have hi':i<ps.length:=by rw[List.length_map]at hi;exact hi
  rw[List.getElem_map];have sA': ∀m,qI (A::m) 0=true:=fun _=>sA
  have hS:L0++rwM (ps.take (i+1)) (-1) (-1)=(L0++rwM (ps.take i) (-1) (-1))++ [⟨ps.getD i default,-1,-1⟩]:=by
   unfold rwM;rw[List.take_add_one,zH hi',List.map_append,gdqA,zH hi',List.append_assoc];rfl
  have eG:ps[i]=ps.getD i default:=by rw[gdqA,zH hi'];rfl
  rw[eG];have hpm:ps.getD i default∈ps:=jo hi';obtain⟨p,hp'⟩: ∃p,p=ps.getD i default:=⟨_,rfl⟩
  rw[←hp']at hS hpm ⊢;obtain⟨M,hM⟩: ∃M,M=L0++rwM (ps.take i) (-1) (-1):=⟨_,rfl⟩
  have hMF: ∀r∈M,PcF r.p:=fun r hr=>by
   rw[hM]at hr;rcases List.mem_append.1 hr with hr|hr
   ·exact hLF r hr
   ·exact hpF _ (List.mem_of_mem_take (j8.1 hr).1)
  have hMn:M.length≤1000000000:=by
   rw[hM,lap,jH,List.length_take];rw[lap,jH]at hLn;omega
  rw[←hM]at hS ⊢;simp only[kF,List.append_assoc,lca,lna];simp (disch:=omega) only[sA',pcC,tkC,go_sem];refine hK1 _ _ (h++ [.mem 1 26 [.str x.sec,strs x.sig,qm x.tok,qv x.col],.emp 1,.emp 2,.mem 1 29 [.osl (h.length+15) (vb+i) 7 0 M.length],.mem 1 117 [.fn (.func 79) [] [.op (h.length+3) 1 0]],O5,.mem 1 64 MC,P7,P8,(.mem (qq (some A)+1) 115 (pcC p)),O10,O11,O12,.emp 0,.emp 0,qZ (vb+i) 36 (jv (bsW M))]) ?_ ?_ ?_
  ·simp[pcC,tkC]
  ·simp
  ·simp only[List.append_assoc,lca,lna];simp (disch:=omega) only[pcC,tkC,go_sem]
   repeat' first
    |with_reducible apply aiA
   all_goals try exact clz
   refine kq (qwf (a:=h.length+3) (b:=h.length+15) (c:=h.length) (va:=1) (vb:=vb+i) (Z:= .mem 1 26 [.str x.sec,strs x.sig,qm x.tok,qv x.col]) ⟨by simp,by simp,by simp,om,om,om⟩ M p (-1) (-1) (by simp only[go_sem]) (by simp only[go_sem]) (by simp only[go_sem]) (by rw[←hX0];exact lX0) (hpF p hpm) hMn hMF) ?_;simp (disch:=omega) only[go_sem];refine hN1 _ _ (h++ [.mem 1 26 [.str x.sec,strs x.sig,qm x.tok,qv x.col],.emp 1,.emp 2,.mem 1 29 [.osl (h.length+15) (vb+(i+1)) 7 0 (M++ [(⟨p,-1,-1⟩:Rw)]).length],.mem 1 117 [.fn (.func 79) [] [.op (h.length+3) 1 0]],O5,.mem 1 64 MC,P7,P8,(.mem (qq (some A)+1) 115 (pcC p)),O10,O11,O12,.emp 0,.emp 0,qZ (vb+(i+1)) 36 (jv (bsW (M++ [(⟨p,-1,-1⟩:Rw)])))]) ?_ ?_ ⟨_,rfl,?_,by rw[hS]⟩
   ·simp[pcC,tkC,Nat.add_assoc]
   ·simp
   ·intro n c hc;simp[pcC,tkC]at hc;rcases hc with rfl|rfl|rfl|rfl|rfl|rfl|rfl<;>rfl
 ·rintro hh ⟨A,sA,lA,rfl⟩;rw[List.length_map,List.take_length];obtain⟨L1,hL1⟩: ∃L1,L1=L0++rwM ps (-1) (-1):=⟨_,rfl⟩
  rw[←hL1]
  by_cases hkl:k<0
  case neg=>
   have hke:k=0:=by omega
   obtain⟨b1,b2⟩:f=x.col.length∧t'=x.col.length:=⟨hf,ht'⟩
   have q4:((k:Int)=0)=True:=eqt om;rw[hP7,hP8];simp (disch:=omega) only[q4,go_sem]
   repeat' first
    |with_reducible apply aiA
   all_goals try exact clz
   rw[←hP7,←hP8];have e1:rwK x [] [] S (k+1)=L1:=by
    unfold rwK;rw[ine (by simp),hL1,hL0,hps,b1,hke];rfl
   have e2:nxT x [] (k+1)=t':=by unfold nxT;rw[ine (by simp),b2]
   refine hK _ _ ⟨k+1,vb+ps.length,P7,P8,A,O10,O11,O12⟩ ⟨by simp only;omega,fun O hO=> ?_⟩ (by simp only;omega) ?_
   ·simp only[List.mem_cons,List.not_mem_nil,or_false]at hO;rcases hO with rfl|rfl|rfl|rfl|rfl|rfl
    ·exact hP7l
    ·exact hP8l
    ·exact⟨sA,lA⟩
    ·exact⟨s10,l10⟩
    ·exact⟨s11,l11⟩
    ·exact⟨s12,l12⟩
   ·simp only[e1,e2];refine Wk.temps ?_
    (simp only[go_sem,qh,qc,qa,qg];try (repeat' first|(with_reducible apply aiA)|(apply qf;omega)|(apply qe;rfl)|exact qi))
  exact absurd hkl (nnz k)
 ·intro e hh hf;exact hf.elim
theorem qB3(h:List AObj)(k:Nat)(hk:qI h k=true):ACalls Tryz.prog 81 [.el] h (.osl k (qq (qr k h)+1) 3 0 0) (qo k h (.mem (qq (qr k h)+1) 64 [])):=by
 refine qf2 qtY k (by simp) ?_;simp only[lco,lnl,Nat.reduceAdd,Nat.reduceSub,List.replicate,lca,lna];simp (disch:=omega) only[qBw,go_sem]
 repeat' first
  |(with_reducible apply aiA)
 all_goals first
  |omega
  |contradiction
  |skip
 all_goals try rfl
 exact⟨h.length+1,2,3,0,0,64,[],_,⟨trivial,trivial⟩,rfl,rfl,om,by simp only[go_sem],(fun c hc=>by cases hc),hk,rfl,rfl⟩
theorem qCj(x:Co)(d:List Dc)(s:Int)(h:List AObj)(hz:qdA x)(hp:kR SG h)(hg:zS h frmN frmC)(hd:d.length≤1000000)(ht: ∀o∈d,o.txt.length≤1000)(hN0:vaE x []=0→(rwA x [] d s.toNat).length≤1000000000):
  ACalls Tryz.prog 25 [.agg (coC x),.el,qaz d,.int .i64 s] h (.tup [qbb (esR x [] d s),.int .i64 (esE x [] d s)]) h:=by
 have hu:qjE []:=⟨by simp,fun i=>by simp;exact nzl _,fun i j=>by simp;exact nzl _,fun i j=>by simp;exact nzl _⟩
 have c1:=fun l'=>(qtl x [] (h++l') hz hu (hp.app l')).le (args:= [.agg (coC x),.el]) ⟨qi,qrF,trivial⟩ (qi)
 have zu: ∀g l,valL g .len [jc l]= .int .i64 l.length:=fun _ _=>rfl
 have zv: ∀g l,okL g .len [jc l]=True:=fun _ _=>eqt trivial
 have zu1: ∀g l,valL g .len [strs l]= .int .i64 l.length:=fun _ _=>rfl
 have zv1: ∀g l,okL g .len [strs l]=True:=fun _ _=>eqt trivial
 have hE:esE x [] d s=(if vaE x []≠0 then vaE x [] else if s<0∨(x.sig.length:Int)≤s then 2 else if qbY x [] d≠0 then qbY x [] d else if 1024<(rwA x [] d s.toNat).length then 4 else 0):=rfl;unfold esR
 by_cases g:vaE x []=0
 case neg=>
  have k1:(vaE x []=0)=False:=eqf g;rw[ipo g]at hE;rw[hE,ine g];unfold coC at c1;refine acO qa1 ?_;simp (disch:=omega) only[qfZ,coC,go_sem]
  repeat' first
   |(refine cA (c1 _) flk ?_;simp (disch:=omega) only[k1,go_sem])
   |(apply qb;exact rvk;simp only[go_sem])
  exact VLe.tup ⟨zg,qi,trivial⟩
 rw[ine (by simpa using g)]at hE;have hN:=hN0 g;simp only[g]at c1;obtain⟨hca,hus,hcv⟩:=qfT g;have ho:=qbh hca
 by_cases g2:s<0
 ·have k2:(s<0)=True:=eqt g2;rw[ipo (.inl g2)]at hE;rw[hE,ine (by decide)];unfold coC at c1;refine acO qa1 ?_;simp (disch:=omega) only[qfZ,coC,go_sem]
  repeat' first
   |(refine cA (c1 _) flk ?_;simp (disch:=omega) only[k2,go_sem])
   |(apply qb;exact rvk;simp only[go_sem])
  exact VLe.tup ⟨zg,qi,trivial⟩
 have k2:(s<0)=False:=eqf g2
 by_cases g3:(x.sig.length:Int)≤s
 ·have k3:((x.sig.length:Int)≤s)=True:=eqt g3;rw[ipo (.inr g3)]at hE;rw[hE,ine (by decide)];unfold coC at c1;refine acO qa1 ?_;simp (disch:=omega) only[qfZ,coC,go_sem]
  repeat' first
   |(refine cA (c1 _) flk ?_;simp (disch:=omega) only[k2,k3,zu1,zv1,go_sem])
   |(apply qb;exact rvk;simp only[go_sem])
  exact VLe.tup ⟨zg,qi,trivial⟩
 have k3:((x.sig.length:Int)≤s)=False:=eqf g3;rw[ine (fun e=>e.elim g2 g3)]at hE;have c2:=fun l'=>(qC2 x [] d (h++l') hz hu (hp.app l') hg.app hca hd ht).le (args:= [.agg (coC x),.el,qaz d]) ⟨qi,qrF,qi,trivial⟩ (qi)
 unfold qz3 at c2
 by_cases g4:qbY x [] d=0
 case neg=>
  have k4:(qbY x [] d=0)=False:=eqf g4;simp only[ine g4]at c2;rw[ipo g4]at hE;rw[hE,ine g4];unfold coC at c1 c2;refine acO qa1 ?_;simp (disch:=omega) only[qfZ,coC,go_sem]
  repeat' first
   |((first|refine cA (c1 _) ?_ ?_|refine cA (c2 _) ?_ ?_);exact flk;simp (disch:=omega) only[k2,k3,k4,zu1,zv1,go_sem])
   |(apply qb;exact rvk;simp only[go_sem])
   |with_reducible apply aiA
  all_goals try exact clz
  exact VLe.tup ⟨zg,qi,trivial⟩
 rw[ine (by simpa using g4)]at hE;simp only[g4,if_true]at c2;rw[hE];unfold coC at c1 c2;refine acO qa1 ?_;simp (disch:=omega) only[qfZ,coC,go_sem]
 repeat' first
  |((first|refine cA (c1 _) ?_ ?_|refine cA (c2 _) ?_ ?_);exact flk;simp (disch:=omega) only[k2,k3,zu1,zv1,go_sem])
  |with_reducible apply aiA
 all_goals try exact clz
 have hd0:d= []:=by
  cases d with
  |nil=>rfl
  |cons o r=>
   exfalso
   have:=g4
   unfold qbY at this;split at this
   ·cases this
   ·have h0:=jO.1 this 0 (by simp);have h1:=(qbX h0).2.2.2.2.1;have h2:qaq x [] ((o::r).getD 0 default)= -1:=rfl;omega
 subst hd0;have zi: ∀g l,valL g .len [qG l]= .int .i64 l.length:=fun _ _=>rfl
 have zj: ∀g l,okL g .len [qG l]=True:=fun _ _=>eqt trivial
 have ePL:(plG x [] [] ([]:List Dc).length).length=0:=rfl;refine qy (qAk (j:=h.length+2) (-1) (List.drop 1 (ze [.int .i64 0] 1)) ?j1) (by exact flk) ?_
 case j1=>simp only[go_sem]
 simp (disch:=omega) only[zi,zj,go_sem];refine qt (T:=fun _:Unit=>qY 154 [(1,.el),(3,.int .i64 s),(4,.op h.length 1 0),(13,qG []),(56,.int .i64 0),(57,.int .i64 0)])
  (H:=fun _=>h++ [.mem 1 26 [.str x.sec,strs x.sig,qm x.tok,qv x.col],.emp 1,.emp 2,.emp 0,.emp 0,.emp 0,.emp 0,.emp 0,.emp 0,.emp 0,.emp 0,.emp 0,.emp 0,.emp 0,.emp 0,.emp 0])
  (inv:=fun _=>True) (m:=fun _=>0) () trivial (Wk.temps ?_) ?_
 ·(simp only[go_sem,qh,qc,qa,qg];try (repeat' first|(with_reducible apply aiA)|(apply qf;omega)|(apply qe;rfl)|exact qi))
 rintro⟨⟩-K hK;have q1:((0:Int)<0)=False:=eqf om;simp (disch:=omega) only[q1,go_sem];refine⟨_,_,Wk.ownNil (j:=h.length+3) (i:=0) (k:=h.length+15) (v:=1) (ty:=29) (cs:= [.nl]) (ve:=0) (sz:=7) ?m1 rfl ?m2,?_⟩
 case m1=>simp only[go_sem]
 case m2=>simp only[go_sem]
 simp (disch:=omega) only[List.set_cons_zero,go_sem];have bne5:(h.length+14 !=h.length+5)=true:=by simp
 have zc: ∀g l,valL g .len [qv l]= .int .i64 l.length:=fun _ _=>rfl
 have zd: ∀g l,okL g .len [qv l]=True:=fun _ _=>eqt trivial
 refine ku ?T ?H ?h1 ?h2
 case h1=>
  simp (disch:=omega) only[zc,zd,go_sem]
  repeat' first
   |(with_reducible apply aiA)
   |(refine qy (qB3 _ (h.length+14) (by simp only[go_sem])) (by exact flk) ?_;simp (disch:=omega) only[zc,zd,go_sem])
  all_goals first
   |omega
   |rfl
   |exact bne5
 case h2=>
 simp (disch:=omega) only[go_sem];obtain⟨S,hS⟩: ∃S:Nat,s=S:=⟨s.toNat,om⟩
 subst hS;rw[itn]at hN ⊢;have hSl:S<x.sig.length:=by omega
 obtain⟨MC,hMC⟩: ∃MC,MC= [AV.int .i64 x.col.length,.int .i64 x.col.length,.nl]:=⟨_,rfl⟩
 rw[←hMC];obtain⟨O5,hO5⟩: ∃O5,O5=AObj.mem 1 64 (AV.int .i64 x.col.length:: .int .i64 x.col.length:: .nl::List.drop 3 (ze [.int .i64 0,.int .i64 0,.nl] 1)):=⟨_,rfl⟩
 rw[←hO5];obtain⟨X0,hX0⟩: ∃X0,X0=AObj.mem 1 26 [.str x.sec,strs x.sig,qm x.tok,qv x.col]:=⟨_,rfl⟩
 have lX0: ∀n,lowO n X0:=by
  intro n;rw[hX0];intro c hc;simp at hc;rcases hc with rfl|rfl|rfl|rfl<;>rfl
 refine qt (T:=fun i:EsS=>qY 154 [(1,.el),(3,.int .i64 (S:Int)),(4,.op h.length 1 0),(13,qG []),(16,.op (h.length+3) 1 0),(17,.op (h.length+4) 1 0),(18,.int .i64 (nxT x [] i.k:Int)),(78,.osl (h.length+14) 2 3 0 1),(79,.int .i64 1),(80,.int .i64 i.k)])
  (H:=fun i=>h++ [.mem 1 26 [.str x.sec,strs x.sig,qm x.tok,qv x.col],.emp 1,.emp 2,.mem 1 29 [.osl (h.length+15) i.vb 7 0 (rwK x [] [] S i.k).length],.mem 1 117 [.fn (.func 79) [] [.op (h.length+3) 1 0]],O5,.emp 0,i.O7,i.O8,i.O9,i.O10,i.O11,i.O12,.emp 0,.mem 2 64 MC,qZ i.vb 36 (jv (bsW (rwK x [] [] S i.k)))])
  (inv:=fun i=>i.k≤1∧ ∀O∈ [i.O7,i.O8,i.O9,i.O10,i.O11,i.O12],qI [O] 0=true∧ ∀n,lowO n O) (m:=fun i=>1-i.k) ⟨0,0,.emp 0,.emp 0,.emp 0,.emp 0,.emp 0,.emp 0⟩ ⟨nzl _,fun O hO=>by
   simp at hO;subst hO;exact⟨rfl,fun _=>trivial⟩⟩ (Wk.temps ?_) ?_
 ·(simp only[go_sem,qh,qc,qa,qg];try (repeat' first|(with_reducible apply aiA)|(apply qf;omega)|(apply qe;rfl)|exact qi))
  done
 rintro⟨k,vb,O7,O8,O9,O10,O11,O12⟩ ⟨i1,i2⟩ K hK;simp only at i1 i2 hK;obtain⟨s7,l7⟩:=i2 O7 (by simp);obtain⟨s8,l8⟩:=i2 O8 (by simp);obtain⟨s9,l9⟩:=i2 O9 (by simp);obtain⟨s10,l10⟩:=i2 O10 (by simp);obtain⟨s11,l11⟩:=i2 O11 (by simp);obtain⟨s12,l12⟩:=i2 O12 (by simp);have s7': ∀m,qI (O7::m) 0=true:=fun _=>s7
 have s8': ∀m,qI (O8::m) 0=true:=fun _=>s8
 by_cases hk:k≤0
 case neg=>
  have q1:((k:Int)<(1:Int))=False:=eqf om;have eR:rwK x [] [] S k=rwA x [] [] S:=by unfold rwK;rw[lnl,ine hk]
  rw[eR]
  by_cases g5:1024<(rwA x [] [] S).length
  ·have q5:((1024:Int)<(rwA x [] [] S).length)=True:=eqt om;simp only[ipo g5];simp (disch:=omega) only[q1,q5,go_sem]
   repeat' first
    |(apply qb;exact rvk;simp only[go_sem])
    |with_reducible apply aiA
   all_goals try exact clz
   exact VLe.tup ⟨zg,qi,trivial⟩
  ·have q5:((1024:Int)<(rwA x [] [] S).length)=False:=eqf om;simp only[ine g5];simp (disch:=omega) only[q1,q5,go_sem]
   repeat' first
    |(apply qb;exact rvk;simp only[go_sem])
    |with_reducible apply aiA
   all_goals try exact clz
   exact VLe.tup ⟨qeC (qad _).symm,qi,trivial⟩
 have q1:((k:Int)<(1:Int))=True:=eqt om;have q2:(0≤(k:Int))=True:=eqt om;have hk0:k=0:=by omega
 have hMl:MC.length=3:=by rw[hMC];rfl
 have q3:(k*3+3≤MC.length)=True:=eqt om;have eR:rwK x [] [] S k=rwL x [] [] S k:=by unfold rwK;rw[lnl,ipo hk]
 have eN:nxT x [] k=jf [] k:=by unfold nxT;rw[lnl,ipo hk]
 rw[eR,eN];obtain⟨f,hf⟩: ∃f,f=x.col.length:=⟨_,rfl⟩
 obtain⟨t',ht'⟩: ∃t',t'=x.col.length:=⟨_,rfl⟩
 obtain⟨RV,hRV⟩: ∃RV,RV=AV.nl:=⟨_,rfl⟩
 have eM:List.take 3 (List.drop (k*3) MC)= [.int .i64 (f:Int),.int .i64 (t':Int),RV]:=by rw[hk0,hMC,hf,ht',hRV];rfl
 have a5:jf [] k≤f:=by rw[hk0];exact nzl _
 have a6:f≤x.col.length:=by omega
 have lRV: ∀n,qU n RV=true:=fun n=>by rw[hRV];rfl
 have c3:=fun h=>qAA x (jf [] k) f S h
 have hit:=itS x S (jf [] k) f hz ho hSl a6 a5;have hpF:=qaD ho hSl (f:=jf [] k) (d:=f-jf [] k) om;obtain⟨ps,hps⟩: ∃ps,ps=spk x S (jf [] k) (f-jf [] k):=⟨_,rfl⟩
 have hxl:(spX x S (jf [] k) (f-jf [] k))=ps.map fun p=> [.agg (pcC p)]:=by unfold spX;rw[hps]
 rw[hxl]at hit;rw[←hps]at hpF;unfold coC at c3 hit;simp (disch:=omega) only[q1,q2,q3,eM,s7',s8',go_sem]
 repeat' first
  |(refine cA (c3 _) flk ?_;simp (disch:=omega) only[go_sem])
  |with_reducible apply aiA
 all_goals try exact clz
 obtain⟨L0,hL0⟩: ∃L0,L0=rwL x [] [] S k:=⟨_,rfl⟩
 have hLF: ∀r∈L0,PcF r.p:=by rw[hL0];exact qgp ho hus hSl (fun i hi=>absurd hi (by simp)) hk
 have hLn:(L0++rwM ps (-1) (-1)).length≤1000000000:=by
  refine Nat.le_trans ?_ hN;rw[hL0,hps,hf,hk0];exact nlr _
 rw[←hL0];obtain⟨P7,hP7⟩: ∃P7,P7=AObj.mem (qq (some O7)+1) 3 [.int .i64 (k:Int)]:=⟨_,rfl⟩
 obtain⟨P8,hP8⟩: ∃P8,P8=AObj.mem (qq (some O8)+1) 64 [.int .i64 (f:Int),.int .i64 (t':Int),RV]:=⟨_,rfl⟩
 have hP7l:qI [P7] 0=true∧ ∀n,lowO n P7:=by
  rw[hP7];refine⟨rfl,fun n c hc=> ?_⟩;rw[List.mem_singleton]at hc;subst hc;rfl
 have hP8l:qI [P8] 0=true∧ ∀n,lowO n P8:=by
  rw[hP8];refine⟨rfl,fun n c hc=> ?_⟩;simp only[List.mem_cons,List.not_mem_nil,or_false]at hc;rcases hc with rfl|rfl|rfl
  ·rfl
  ·rfl
  ·exact lRV n
 have cP7: ∀m,cellsOf (P7::m) 0 (qq (some O7)+1)=some [.int .i64 (k:Int)]:=fun m=>by rw[hP7];simp only[go_sem]
 rw[←hP7,←hP8];have lP: ∀L:List Rw,∀v n,lowO n (qZ v 36 (jv (bsW L))):=fun L v n=>jp (qcS _ n)
 have hLow: ∀(L M:List Rw) (v w:Nat) O A,(∀n,lowO n A)→LowI (h++ [.mem 1 26 [.str x.sec,strs x.sig,qm x.tok,qv x.col],.emp 1,.emp 2,.mem 1 29 [.osl (h.length+15) w 7 0 M.length],.mem 1 117 [.fn (.func 79) [] [.op (h.length+3) 1 0]],O5,.emp 0,P7,P8,O,O10,O11,O12,.emp 0,.mem 2 64 MC,qZ w 36 (jv (bsW M))])
   (h++ [.mem 1 26 [.str x.sec,strs x.sig,qm x.tok,qv x.col],.emp 1,.emp 2,.mem 1 29 [.osl (h.length+15) v 7 0 L.length],.mem 1 117 [.fn (.func 79) [] [.op (h.length+3) 1 0]],O5,.emp 0,P7,P8,A,O10,O11,O12,.emp 0,.mem 2 64 MC,qZ v 36 (jv (bsW L))]):=fun L M v w O A lA=>by
  refine⟨by simp,fun o ho=> ?_⟩;rcases List.mem_append.1 ho with h1|h1
  ·exact .inl (List.mem_append_left _ h1)
  ·simp only[List.mem_cons,List.not_mem_nil,or_false]at h1;rcases h1 with rfl|rfl|rfl|rfl|rfl|rfl|rfl|rfl|rfl|rfl|rfl|rfl|rfl|rfl|rfl|rfl
   ·left;simp
   ·left;simp
   ·left;simp
   ·right;refine⟨fun c hc=> ?_,fun c hc=> ?_⟩<;>
    ·rw[List.mem_singleton]at hc;subst hc;simp[qU]
     try omega
   ·left;simp
   ·left;simp
   ·left;simp
   ·left;simp
   ·left;simp
   ·right;exact⟨lA _,lA _⟩
   ·left;simp
   ·left;simp
   ·left;simp
   ·left;simp
   ·left;simp
   ·right;exact⟨lP _ _ _,lP _ _ _⟩
 refine zk hit (fun a ha=> ?_)
  (S:=fun i hh=> ∃A,qI [A] 0=true∧(∀n,lowO n A)∧hh=h++ [.mem 1 26 [.str x.sec,strs x.sig,qm x.tok,qv x.col],.emp 1,.emp 2,.mem 1 29 [.osl (h.length+15) (vb+i) 7 0 (L0++rwM (ps.take i) (-1) (-1)).length],.mem 1 117 [.fn (.func 79) [] [.op (h.length+3) 1 0]],O5,.emp 0,P7,P8,A,O10,O11,O12,.emp 0,.mem 2 64 MC,qZ (vb+i) 36 (jv (bsW (L0++rwM (ps.take i) (-1) (-1))))]) (E:=fun _ _=>False) ?_ ?_ ?_ ?_ ?_ ?_ ?_
 ·obtain⟨c,_,rfl⟩:=List.mem_map.1 ha;rfl
 ·rintro i hh ⟨A,_,lA,rfl⟩;exact hLow _ _ _ _ _ _ lA
 ·intro s hh hf;exact hf.elim
 ·exact⟨O9,s9,l9,by simp[rwM]⟩
 ·simp[qU,qU.lowVs]
  repeat' apply aiA
  all_goals first|rfl|omega|exact lRV _
 ·rintro i hh tl LI TS hi ⟨A,sA,lA,rfl⟩ hlen K1 K2 hK1 hN1 hR1 hX1;have hi':i<ps.length:=by rw[List.length_map]at hi;exact hi
  rw[List.getElem_map];have sA': ∀m,qI (A::m) 0=true:=fun _=>sA
  have hS:L0++rwM (ps.take (i+1)) (-1) (-1)=(L0++rwM (ps.take i) (-1) (-1))++ [⟨ps.getD i default,-1,-1⟩]:=by
   unfold rwM;rw[List.take_add_one,zH hi',List.map_append,gdqA,zH hi',List.append_assoc];rfl
  have eG:ps[i]=ps.getD i default:=by rw[gdqA,zH hi'];rfl
  rw[eG];have hpm:ps.getD i default∈ps:=jo hi';obtain⟨p,hp'⟩: ∃p,p=ps.getD i default:=⟨_,rfl⟩
  rw[←hp']at hS hpm ⊢;obtain⟨M,hM⟩: ∃M,M=L0++rwM (ps.take i) (-1) (-1):=⟨_,rfl⟩
  have hMF: ∀r∈M,PcF r.p:=fun r hr=>by
   rw[hM]at hr;rcases List.mem_append.1 hr with hr|hr
   ·exact hLF r hr
   ·exact hpF _ (List.mem_of_mem_take (j8.1 hr).1)
  have hMn:M.length≤1000000000:=by
   rw[hM,lap,jH,List.length_take];rw[lap,jH]at hLn;omega
  rw[←hM]at hS ⊢;simp only[kF,List.append_assoc,lca,lna];simp (disch:=omega) only[sA',pcC,tkC,go_sem];refine hK1 _ _ (h++ [.mem 1 26 [.str x.sec,strs x.sig,qm x.tok,qv x.col],.emp 1,.emp 2,.mem 1 29 [.osl (h.length+15) (vb+i) 7 0 M.length],.mem 1 117 [.fn (.func 79) [] [.op (h.length+3) 1 0]],O5,.emp 0,P7,P8,(.mem (qq (some A)+1) 115 (pcC p)),O10,O11,O12,.emp 0,.mem 2 64 MC,qZ (vb+i) 36 (jv (bsW M))]) ?_ ?_ ?_
  ·simp[pcC,tkC]
  ·simp
  ·simp only[List.append_assoc,lca,lna];simp (disch:=omega) only[pcC,tkC,go_sem]
   repeat' first
    |with_reducible apply aiA
   all_goals try exact clz
   refine kq (qwf (a:=h.length+3) (b:=h.length+15) (c:=h.length) (va:=1) (vb:=vb+i) (Z:= .mem 1 26 [.str x.sec,strs x.sig,qm x.tok,qv x.col]) ⟨by simp,by simp,by simp,om,om,om⟩ M p (-1) (-1) (by simp only[go_sem]) (by simp only[go_sem]) (by simp only[go_sem]) (by rw[←hX0];exact lX0) (hpF p hpm) hMn hMF) ?_;simp (disch:=omega) only[go_sem];refine hN1 _ _ (h++ [.mem 1 26 [.str x.sec,strs x.sig,qm x.tok,qv x.col],.emp 1,.emp 2,.mem 1 29 [.osl (h.length+15) (vb+(i+1)) 7 0 (M++ [(⟨p,-1,-1⟩:Rw)]).length],.mem 1 117 [.fn (.func 79) [] [.op (h.length+3) 1 0]],O5,.emp 0,P7,P8,(.mem (qq (some A)+1) 115 (pcC p)),O10,O11,O12,.emp 0,.mem 2 64 MC,qZ (vb+(i+1)) 36 (jv (bsW (M++ [(⟨p,-1,-1⟩:Rw)])))]) ?_ ?_ ⟨_,rfl,?_,by rw[hS]⟩
   ·simp[pcC,tkC,Nat.add_assoc]
   ·simp
   ·intro n c hc;simp[pcC,tkC]at hc;rcases hc with rfl|rfl|rfl|rfl|rfl|rfl|rfl<;>rfl
 ·rintro hh ⟨A,sA,lA,rfl⟩;rw[List.length_map,List.take_length];obtain⟨L1,hL1⟩: ∃L1,L1=L0++rwM ps (-1) (-1):=⟨_,rfl⟩
  rw[←hL1]
  by_cases hkl:k<0
  case neg=>
   have hke:k=0:=by omega
   obtain⟨b1,b2⟩:f=x.col.length∧t'=x.col.length:=⟨hf,ht'⟩
   have q4:((k:Int)=0)=True:=eqt om;rw[hP7,hP8];simp (disch:=omega) only[q4,go_sem]
   repeat' first
    |with_reducible apply aiA
   all_goals try exact clz
   rw[←hP7,←hP8];have e1:rwK x [] [] S (k+1)=L1:=by
    unfold rwK;rw[ine (by simp),hL1,hL0,hps,b1,hke];rfl
   have e2:nxT x [] (k+1)=t':=by unfold nxT;rw[ine (by simp),b2]
   refine hK _ _ ⟨k+1,vb+ps.length,P7,P8,A,O10,O11,O12⟩ ⟨by simp only;omega,fun O hO=> ?_⟩ (by simp only;omega) ?_
   ·simp only[List.mem_cons,List.not_mem_nil,or_false]at hO;rcases hO with rfl|rfl|rfl|rfl|rfl|rfl
    ·exact hP7l
    ·exact hP8l
    ·exact⟨sA,lA⟩
    ·exact⟨s10,l10⟩
    ·exact⟨s11,l11⟩
    ·exact⟨s12,l12⟩
   ·simp only[e1,e2];refine Wk.temps ?_
    (simp only[go_sem,qh,qc,qa,qg];try (repeat' first|(with_reducible apply aiA)|(apply qf;omega)|(apply qe;rfl)|exact qi))
  exact absurd hkl (nnz k)
 ·intro e hh hf;exact hf.elim
theorem qBx(x:Co)(l:List Un)(d:List Dc)(s:Int)(h:List AObj)(hz:qdA x)(hu:qjE l)(hp:kR SG h)(hg:zS h frmN frmC)(hd:d.length≤1000000)(ht: ∀o∈d,o.txt.length≤1000)(hN0:vaE x l=0→(rwA x l d s.toNat).length≤1000000000):
  ACalls Tryz.prog 25 [.agg (coC x),jc l,qaz d,.int .i64 s] h (.tup [qbb (esR x l d s),.int .i64 (esE x l d s)]) h:=by
 cases l with
 |nil=>exact ACalls.sl0 (pre:= [.agg (coC x)]) (post:= [qaz d,.int .i64 s]) (qCi x d s h hz hp hg hd ht hN0) (qCj x d s h hz hp hg hd ht hN0)
 |cons u r=>exact qEx x (u::r) d s h hz hu hp hg (List.cons_ne_nil _ _) hd ht hN0
end RC
end
section
open Go Go.Proofs AF
def qem:List Nat:= []
def qwJ:C:=
 ((C.ops [⟨some 2,none,.alloc 0 103 [.str [],.str [],.str [],i6 0,i6 0,.str []],[]⟩]).seq ((C.ops [MV 3 0,MV 4 0,⟨some 5,none,.build [.str [],.str [],.str [],i6 0,i6
 0,.str []] [(0,1),(1,1)],[.t 3,.t 4]⟩,ST 6 2 5]).seq
 C.ret))
theorem qyi:qL Tryz.prog 144 6 1 [RV.cell 2 (some 6)] qwJ:=fi Tryz.f144 [2] qem []
def qDP:C:=
 ((C.ops [⟨some 0,none,.alloc 0 26 [.str [],.nl,.nl,.nl],[]⟩]).seq ((C.ops [⟨some 1,none,.bslc 1 1 2 9 [.str []] [(0,1),(1,1)],[.c (.str [65]),.c (.str [66])]⟩,ON 2
 (.call 144 true) [.c (.str [100,101,117,115])],ON 3 (.call 144 true) [.c (.str [101,115,116])],ON 4 (.call 144 true) [.c (.str [98,111,110,117,115])],⟨some 5,none,
 .bslc 2 6 3 103 [.str [],.str [],.str [],i6 0,i6 0,.str []] [(0,6),(6,6),(12,6)],[.t 2,.t 3,.t 4]⟩,ON 6 (.call 144 true) [.c (.str [100,101,117,115])],ON 7 (.call
 144 true) [.c (.str [98,111,110,117,115])],⟨some 8,none,.bslc 3 6 2 103 [.str [],.str [],.str [],i6 0,i6 0,.str []] [(0,6),(6,6)],[.t 6,.t 7]⟩,⟨some 9,none,
 .bslc 4 1 2 105 [.nl] [(0,1),(1,1)],[.t 5,.t 8]⟩,⟨some 10,none,.bslc 5 1 2 3 [i6 0] [(0,1),(1,1)],[.c (i6 0),.c (i6 0)]⟩,⟨some 11,none,.bslc 6 1 2 3 [i6 0] [(0,1),
 (1,1)],[.c (i6 1),.c (i6 (-1))]⟩,⟨some 12,none,.bslc 7 1 2 3 [i6 0] [(0,1),(1,1)],[.c (i6 2),.c (i6 1)]⟩,⟨some 13,none,.bslc 8 1 3 39 [.nl] [(0,1),(1,1),(2,1)],
 [.t 10,.t 11,.t 12]⟩,⟨some 14,none,.build [.str [],.nl,.nl,.nl] [(0,1),(1,1),(2,1),(3,1)],[.c (.str [97]),.t 1,.t 9,.t 13]⟩,ST 4 0 14]).seq
 C.ret))
theorem qCB:qL Tryz.prog 92 15 9 [RV.cell 0 (some 4)] qDP:=fi Tryz.f92 [0,1,5,8,9,10,11,12,13] qem []
def qxB:C:=
 ((C.ops [O1 1 (.box 0 75) 0,MC 2 (.bool false)]).seq ((C.ops [O1 3 (.fldA 0) 1,O1 4 (.load (some 4)) 3,O1 5 (.call 28 true) 4,MV 6 5,P1 7 6 false (.fldA 4) 1,P1 8 6 false
 (.load none) 7,P1 9 6 false (.call 97 true) 8,PT 10 6 9,MV 11 10,P1 12 11 false (.fldA 5) 1,P1 13 11 false (.load none) 12,P1 14 11 false (.call 23 true) 13,PT 15 11 14,MV
 2 15]).seq
 C.ret))
theorem qpI:qL Tryz.prog 46 16 1 [RV.tmp 2] qxB:=fi Tryz.f46 [1] qem []
def qxA:C:=
 ((C.ops [O1 1 (.box 0 75) 0,ON 2 (.nilo 1 7 36) [],MC 3 (.bool false)]).seq (((C.ops [O1 6 (.load (some 7)) 1,O1 7 (.call 46 true) 6,MV 8 7,P1 9 8 false (.fldA 0) 1,P1 10 8
 false (.load (some 4)) 9,P1 11 8 false (.call 29 true) 10,PC 12 8 false (.bin .neq) 11 (i6 0),PT 13 8 12]).seq (C.cond (.t 13) ((C.ops [ON 2 (.nilo 1 7 36) [],MC 3 (.bool
 false)]).seq C.ret) C.skip)).seq ((C.ops [O1 15 (.fldA 0) 1,O1 16 (.load (some 4)) 15,O1 17 (.fldA 4) 1,LD 18 17,O1 19 (.fldA 5) 1,LD 20 19,O1 21 (.fldA 6) 1,LD 22 21,ON 23
 (.call 25 true) [.t 16,.t 18,.t 20,.t 22],MV 14 23,O1 24 (.ext 0) 14,O1 25 (.ext 1) 14,MV 4 24,MV 5 25]).seq ((C.ops [MV 26 4,MV 27 5,BC 28 .eql 27 (i6 0),MV 2 26,MV 3
 28]).seq
 C.ret))))
theorem qpH:qL Tryz.prog 39 29 2 [RV.tmp 2,RV.tmp 3] qxA:=fi Tryz.f39 [1,2] qem []
end
section
open Go Go.Proofs AF
def quf:List Nat:= [25]
def qDG:C:=
 ((C.ops [MC 0 (.bool false)]).seq ((C.ops [ON 10 (.call 92 true) [],O1 11 (.call 31 true) 10,MV 9 11,O1 12 (.ext 0) 9,O1 13 (.ext 1) 9,MV 1 12,MV 2 13]).seq ((C.ops [ON 15
 (.call 92 true) [],MV 16 1,ON 17 (.call 25 false) [.t 15,.t 16,.c .nl,.c (i6 0)],MV 14 17,O1 18 (.ext 0) 14,O1 19 (.ext 1) 14,MV 3 18,MV 4 19]).seq ((C.ops [ON 21 (.call
 92 true) [],MV 22 1,⟨some 23,none,.build [i6 0,.str [],i6 0,.str []] [(0,1),(1,1),(2,1)],[.c (i6 3),.c (.str [65]),.c (i6 1)]⟩,⟨some 24,none,.bslc 0 4 1 43 [i6 0,
 .str [],i6 0,.str []] [(0,4)],[.t 23]⟩,ON 25 (.call 25 false) [.t 21,.t 22,.t 24,.c (i6 0)],MV 20 25,O1 26 (.ext 0) 20,O1 27 (.ext 1) 20,MV 5 26,MV 6 27]).seq ((C.ops
 [ON 29 (.call 92 true) [],MV 30 1,⟨some 31,none,.build [i6 0,.str [],i6 0,.str []] [(0,1),(1,1),(2,1),(3,1)],[.c (i6 2),.c (.str [65]),.c (i6 1),.c (.str [118,
 101,114,101,44,32,101,116])]⟩,⟨some 32,none,.bslc 1 4 1 43 [i6 0,.str [],i6 0,.str []] [(0,4)],[.t 31]⟩,ON 33 (.call 25 false) [.t 29,.t 30,.t 32,.c (i6 0)],MV
 28 33,O1 34 (.ext 0) 28,O1 35 (.ext 1) 28,MV 7 34,MV 8 35]).seq (((C.ops [MV 36 2,MV 37 4,MV 38 6,MV 39 8,ON 40 (.mm true) [.t 36,.t 37,.t 38,.t 39],BC 41 .neq 40 (i6
 0),MV 42 41,MG 43 42 false 7,P1 44 42 false .len 43,PC 45 42 false (.bin .neq) 44 (i6 5),PT 46 42 45]).seq (C.cond (.t 46) ((C.ops [MC 0 (.bool false)]).seq C.ret)
 C.skip)).seq ((C.ops [MV 47 3,O1 48 (.call 37 true) 47,⟨some 49,none,.bslc 2 1 3 9 [.str []] [(0,1),(1,1),(2,1)],[.c (.str [100,101,117,115]),.c (.str [101,115,
 116]),.c (.str [98,111,110,117,115])]⟩,O2 50 (.call 36 true) 48 49,MV 51 50,MG 52 51 true 5,P1 53 51 true (.call 37 true) 52,⟨some 54,some (51,true),.bslc 3 1 2 9
 [.str []] [(0,1),(1,1)],[.c (.str [100,101,117,115]),.c (.str [98,111,110,117,115])]⟩,P2 55 51 true (.call 36 true) 53 54,PF 56 51 55,MV 57 56,MG 58 57 true 7,P1
 59 57 true (.call 37 true) 58,⟨some 60,some (57,true),.bslc 4 1 5 9 [.str []] [(0,1),(1,1),(2,1),(3,1),(4,1)],[.c (.str [100,101,117,115]),.c (.str [118,101,
 114,101]),.c (.str [44]),.c (.str [101,116]),.c (.str [98,111,110,117,115])]⟩,P2 61 57 true (.call 36 true) 59 60,PF 62 57 61,MV 63 62,MG 64 63 true 7,PC 65 63 true
 (.idxA 7) 64 (i6 2),P1 66 63 true (.fldA 4) 65,P1 67 63 true (.load none) 66,PF 68 63 67,MV 69 68,MG 70 69 true 7,PC 71 69 true (.idxA 7) 70 (i6 3),P1 72 69 true (.fldA 4)
 71,P1 73 69 true (.load none) 72,P1 74 69 true (.un UnOp.not) 73,PF 75 69 74,MV 0 75]).seq
 C.ret)))))))
theorem qCr:qL Tryz.prog 40 76 5 [RV.tmp 0] qDG:=fi Tryz.f40 [24,32,49,54,60] quf []
end
section
open Go Go.Proofs AF HY LN
namespace RC
theorem qEG(a:Cq)(h:List AObj)(hb:CqB a):ACalls Tryz.prog 46 [.agg (cqC a)] h (.bool (qt4 a)) h:=by
 have c1:=fun h=>qEC a.x h hb.x
 have c2:=fun h=>qED a.l h hb.l
 have c3:=fun h=>qCJ a.d h hb.d
 unfold qt4;cases e1:qt2 a.x with
 |true=>
  rw[e1]at c1;unfold coC at c1;refine acO qpI ?_;simp (disch:=omega) only[qxB,cqC,go_sem]
  repeat' first
   |(refine qj ( .bool false) ?_;simp (disch:=omega) only[go_sem])
   |(refine cA (c1 _) flk ?_;simp (disch:=omega) only[go_sem])
   |(apply qb;exact rvk;simp only[go_sem];exact qi)
 |false=>
  rw[e1]at c1;unfold coC at c1;cases e2:qt3 a.l with
  |true=>
   rw[e2]at c2;refine acO qpI ?_;simp (disch:=omega) only[qxB,cqC,go_sem]
   repeat' first
    |(refine qj ( .bool false) ?_;simp (disch:=omega) only[go_sem])
    |((first|refine cA (c1 _) ?_ ?_|refine cG (fun e=>c2 _) ?_ ?_);exact flk;simp (disch:=omega) only[go_sem])
    |(apply qb;exact rvk;simp only[go_sem];exact qi)
  |false=>
   rw[e2]at c2;cases e3:qt5 a.d with
   |true=>
    rw[e3]at c3;refine acO qpI ?_;simp (disch:=omega) only[qxB,cqC,go_sem]
    repeat' first
     |((first|refine cA (c1 _) ?_ ?_|refine cG (fun e=>c2 _) ?_ ?_|refine cG (fun e=>c3 _) ?_ ?_);exact flk;simp (disch:=omega) only[go_sem])
     |(apply qb;exact rvk;simp only[go_sem];exact qi)
   |false=>
    rw[e3]at c3;refine acO qpI ?_;simp (disch:=omega) only[qxB,cqC,go_sem]
    repeat' first
     |((first|refine cA (c1 _) ?_ ?_|refine cG (fun e=>c2 _) ?_ ?_|refine cG (fun e=>c3 _) ?_ ?_);exact flk;simp (disch:=omega) only[go_sem])
     |(apply qb;exact rvk;simp only[go_sem];exact qi)
def mdB(a:Cq):Bool:= !qt4 a&&decide (esE a.x a.l a.d a.lead=0)
def mdR(a:Cq):List Wd:=if qt4 a=true then [] else esR a.x a.l a.d a.lead
theorem qCh{x:Co}{l:List Un}{d:List Dc}{s:Int}(h:coE x≠0):esE x l d s≠0:=by
 have:vaE x l=1:=by unfold vaE;rw[ipo h]
 unfold esE;rw[this,ipo (by decide)];decide
theorem esA(a:Cq)(h:List AObj)(z:CqS a)(hp:kR SG h)(hg:zS h frmN frmC):ACalls Tryz.prog 25 [.agg (coC a.x),jc a.l,qaz a.d,.int .i64 a.lead] h (.tup [qbb (esR a.x a.l a.d a.lead),.int .i64 (esE a.x a.l a.d a.lead)]) h:=
 qBx a.x a.l a.d a.lead h z.x z.l hp hg (by have:=z.d;omega) (fun o ho=>by have:=z.t o ho;omega) (z.lim _)
theorem qCS(a:Cq)(h:List AObj)(hb:CqB a)(hp:kR SG h)(hg:zS h frmN frmC):ACalls Tryz.prog 39 [.agg (cqC a)] h (.tup [qbb (mdR a),.bool (mdB a)]) h:=by
 have c1:=fun h=>qEG a h hb
 unfold mdB mdR;cases e1:qt4 a with
 |true=>
  rw[e1]at c1;refine acO qpH ?_;simp (disch:=omega) only[qxA,cqC,go_sem]
  repeat' first
   |(refine qj ( .int .i64 0) ?_;simp (disch:=omega) only[go_sem])
   |(refine cA (c1 _) flk ?_;simp (disch:=omega) only[go_sem])
   |(apply qb;exact rvk;simp only[go_sem])
  exact VLe.tup ⟨zg,qi,trivial⟩
 |false=>
  rw[e1]at c1;have z:=qsd e1;have c2:=fun l'=>coR a.x (h++l') z.x (hp.app l')
  have c3:=fun l'=>esA a (h++l') z (hp.app l') hg.app
  rw[ine (by simp)]
  by_cases e2:coE a.x=0
  ·rw[e2]at c2;obtain⟨E,hE⟩: ∃E,E=esE a.x a.l a.d a.lead:=⟨_,rfl⟩
   simp only[←hE]at c3 ⊢;unfold cqC at c1;unfold coC at c2 c3
   by_cases e3:E=0
   ·have k3:(E=0)=True:=eqt e3;rw[dqt e3];refine acO qpH ?_;simp (disch:=omega) only[qxA,cqC,go_sem]
    repeat' first
     |((first|refine cA (c1 _) ?_ ?_|refine cG (fun e=>c2 _) ?_ ?_|refine cA (c3 _) ?_ ?_);exact flk;simp (disch:=omega) only[k3,go_sem])
     |(apply qb;exact rvk;simp only[go_sem];exact qi)
     |with_reducible apply aiA
    all_goals try exact clz
   ·have k3:(E=0)=False:=eqf e3;rw[dqf e3];refine acO qpH ?_;simp (disch:=omega) only[qxA,cqC,go_sem]
    repeat' first
     |((first|refine cA (c1 _) ?_ ?_|refine cG (fun e=>c2 _) ?_ ?_|refine cA (c3 _) ?_ ?_);exact flk;simp (disch:=omega) only[k3,go_sem])
     |(apply qb;exact rvk;simp only[go_sem];exact qi)
     |with_reducible apply aiA
    all_goals try exact clz
  ·have k2:(coE a.x=0)=False:=eqf e2;have hn:=qCh (l:=a.l) (d:=a.d) (s:=a.lead) e2;rw[dqf hn];unfold esR;rw[ine hn];obtain⟨E,hE⟩: ∃E,E=coE a.x:=⟨_,rfl⟩
   simp only[←hE]at c2 k2;unfold cqC at c1;unfold coC at c2;refine acO qpH ?_;simp (disch:=omega) only[qxA,cqC,go_sem]
   repeat' first
    |((first|refine cA (c1 _) ?_ ?_|refine cG (fun e=>c2 _) ?_ ?_);exact flk;simp (disch:=omega) only[k2,go_sem])
    |(apply qb;exact rvk;simp only[go_sem])
   exact VLe.tup ⟨zg,qi,trivial⟩
theorem qDd(s:Str)(h:List AObj):ACalls Tryz.prog 144 [.str s] h (.agg (tkC (tkS s))) h:=by
 unfold tkS tkC;refine acO qyi ?_;simp (disch:=omega) only[qwJ,go_sem]
 repeat' first
  |(apply qb;exact rvk;simp only[go_sem];exact qi)
theorem qDa(h:List AObj):ACalls Tryz.prog 92 [] h (.agg (coC xCo)) h:=by
 have c1:=fun s h=>qDd s h
 unfold tkC tkS at c1;refine acO qCB ?_;simp (disch:=omega) only[qDP,go_sem]
 repeat' first
  |((first|refine cA (c1 qcx _) ?_ ?_|refine cA (c1 qwa _) ?_ ?_|refine cA (c1 qan _) ?_ ?_);exact flk;simp (disch:=omega) only[go_sem])
  |(apply qb;exact rvk;simp only[go_sem])
 refine VLe.agg ⟨qi,vl2 ⟨ie rfl,trivial⟩ ⟨ie rfl,trivial⟩,vl2 ⟨?a1,trivial⟩ ⟨?a2,trivial⟩,vl3 ⟨?a3,trivial⟩ ⟨?a4,trivial⟩ ⟨?a5,trivial⟩,trivial⟩
 case a1=>simp only[go_sem];exact il3 rfl rfl rfl
 case a2=>simp only[go_sem];exact il2 rfl rfl
 case a3=>simp only[go_sem];exact il2 rfl rfl
 case a4=>simp only[go_sem];exact il2 rfl rfl
 case a5=>simp only[go_sem];exact il2 rfl rfl
def qu2:Str:= [118,101,114,101]
def qD1:Dc:=⟨3,[65],1,[]⟩
def qD2:Dc:=⟨2,[65],1,[118,101,114,101,44,32,101,116]⟩
def qA:List Wd:= [⟨qcx,0,-1,-1,false,false,[]⟩,⟨qwa,1,0,-1,false,false,[]⟩,⟨qan,2,-1,-1,false,false,[]⟩]
def qB:List Wd:= [⟨qcx,0,-1,-1,false,false,[]⟩,⟨qan,2,-1,-1,false,false,[]⟩]
def qC:List Wd:= [⟨qcx,0,-1,-1,false,false,[]⟩,⟨qu2,1,0,0,false,false,[]⟩,⟨[44],1,0,0,true,false,[]⟩,⟨[101,116],1,0,0,false,false,[]⟩,⟨qan,2,-1,-1,false,false,[]⟩]
theorem q_u:utR xCo=xUn∧utE xCo=0:=by decide+kernel
theorem q_a:esE xCo xUn [] 0=0∧esR xCo xUn [] 0=qA:=by decide+kernel
theorem q_b:esE xCo xUn [qD1] 0=0∧esR xCo xUn [qD1] 0=qB:=by decide+kernel
theorem q_c:esE xCo xUn [qD2] 0=0∧esR xCo xUn [qD2] 0=qC:=by decide+kernel
theorem qBI(h:List AObj)(hp:kR SG h)(hg:zS h frmN frmC):ACalls Tryz.prog 40 [] h (.bool true) h:=by
 have c1:=fun h=>qDa h
 have zs:qdA xCo:=(qsb (by decide+kernel)).1;have zu:qjE xUn:=(qsc (by decide+kernel)).1;have c2:=fun l'=>qDg xCo (h++l') zs (hp.app l')
 rw[q_u.1,q_u.2]at c2;have hb: ∀d:List Dc,(∀o∈d,o.txt.length≤1000)→vaE xCo xUn=0→(rwA xCo xUn d (0:Int).toNat).length≤1000000000:=fun d ht g=>qng (by decide) ht g
 have t1: ∀o∈ [qD1],o.txt.length≤1000:=by decide
 have t2: ∀o∈ [qD2],o.txt.length≤1000:=by decide
 have c3:=fun l'=>(qBx xCo xUn [] 0 (h++l') zs zu (hp.app l') hg.app (by simp) (by simp) (hb [] (by simp))).le (args:= [.agg (coC xCo),jc xUn,.nl,.int .i64 0]) ⟨qi,qi,zg,qi,trivial⟩ (qi)
 have c4:=fun l'=>qBx xCo xUn [qD1] 0 (h++l') zs zu (hp.app l') hg.app (by simp) t1 (hb _ t1)
 have c5:=fun l'=>qBx xCo xUn [qD2] 0 (h++l') zs zu (hp.app l') hg.app (by simp) t2 (hb _ t2)
 rw[q_a.1,q_a.2]at c3;rw[q_b.1,q_b.2]at c4;rw[q_c.1,q_c.2]at c5;have hc0:([h.length]:List Nat).contains h.length=true:=by simp
 have hc1:([h.length+1]:List Nat).contains (h.length+1)=true:=by simp
 unfold coC at c1 c2 c3;refine acO qCr ?_;simp (disch:=omega) only[qDG,go_sem]
 repeat' first
  |((first|refine cA (c1 _) ?_ ?_|refine cA (c2 _) ?_ ?_|refine cA (c3 _) ?_ ?_);exact flk;simp (disch:=omega) only[go_sem])
  |with_reducible apply aiA
 all_goals try exact clz
 refine qy (r:= .tup [qbb qB,.int .i64 0]) (h':=h++ [.emp 2,.emp 0,.emp 0,.emp 0,.emp 0]) (ACalls.frzd [h.length] (by simp only[qaJ,go_sem]) ?c) (by exact flk) ?_
 case c=>
  simp only[qdq,go_sem];refine ACalls.le (c4 _) ?_ (qi);simp only[go_sem,coC,hc0,if_true];exact⟨qi,qi,VLe.sl_eq rfl (fun i hi=>by
   obtain rfl:i=0:=by omega
   rfl),qi,trivial⟩
 simp (disch:=omega) only[go_sem]
 repeat' first
  |(refine cA (c1 _) flk ?_;simp (disch:=omega) only[go_sem])
  |with_reducible apply aiA
 all_goals try exact clz
 refine qy (r:= .tup [qbb qC,.int .i64 0]) (h':=h++ [.emp 2,.emp 2,.emp 0,.emp 0,.emp 0]) (ACalls.frzd [h.length+1] (by simp only[qaJ,go_sem]) ?d) (by exact flk) ?_
 case d=>
  simp only[qdq,go_sem];refine ACalls.le (c5 _) ?_ (qi);simp only[go_sem,coC,hc1,if_true];exact⟨qi,qi,VLe.sl_eq rfl (fun i hi=>by
   obtain rfl:i=0:=by omega
   rfl),qi,trivial⟩
 have zm:valP (.mm true) [.int .i64 0,.int .i64 0,.int .i64 0,.int .i64 0]= .int .i64 0:=rfl;have zn:okP (.mm true) [.int .i64 0,.int .i64 0,.int .i64 0,.int .i64 0]=True:=eqt (by simp[okP,qc6]);have zA: ∀g,valL g .len [qbb qC]= .int .i64 5:=fun _=>rfl
 have zB: ∀g,okL g .len [qbb qC]=True:=fun _=>eqt trivial
 have w1:=fun h=>qvX qA h (by decide)
 have w2:=fun h=>qvX qB h (by decide)
 have w3:=fun h=>qvX qC h (by decide)
 have e1:qnW qA= [qcx,qwa,qan]:=rfl;have e2:qnW qB= [qcx,qan]:=rfl;have e3:qnW qC= [qcx,qu2,[44],[101,116],qan]:=rfl;rw[e1]at w1;rw[e2]at w2;rw[e3]at w3;simp (disch:=omega) only[zm,zn,zA,zB,go_sem]
 repeat' first
  |(refine cA (w1 _) flk ?_;simp (disch:=omega) only[go_sem])
  |with_reducible apply aiA
 all_goals try exact clz
 refine cA (qCf (L:= [qcx,qwa,qan]) ?v1 (by decide)) (by exact flk) ?_
 case v1=>
  simp only[List.map,go_sem];exact⟨qi,VLe.sl_eq rfl (fun i hi=>by
   match i,hi with
   |0,_=>rfl
   |1,_=>rfl
   |2,_=>rfl
   |n+3,hi=>exact absurd hi om),trivial⟩
 simp (disch:=omega) only[go_sem]
 repeat' first
  |(refine cG (fun e=>w2 _) flk ?_;simp (disch:=omega) only[go_sem])
 refine cG (fun _=>qCf (L:= [qcx,qan]) ?v2 (by decide)) (fun _=>by exact flk) ?_
 case v2=>
  simp only[List.map,go_sem];exact⟨qi,VLe.sl_eq rfl (fun i hi=>by
   match i,hi with
   |0,_=>rfl
   |1,_=>rfl
   |n+2,hi=>exact absurd hi om),trivial⟩
 simp (disch:=omega) only[go_sem]
 repeat' first
  |(refine cG (fun e=>w3 _) flk ?_;simp (disch:=omega) only[go_sem])
 refine cG (fun _=>qCf (L:= [qcx,qu2,[44],[101,116],qan]) ?v3 (by decide)) (fun _=>by exact flk) ?_
 case v3=>
  simp only[List.map,go_sem];exact⟨qi,VLe.sl_eq rfl (fun i hi=>by
   match i,hi with
   |0,_=>rfl
   |1,_=>rfl
   |2,_=>rfl
   |3,_=>rfl
   |4,_=>rfl
   |n+5,hi=>exact absurd hi om),trivial⟩
 have zq:qbb qC= .sl 5 fun i=>wdC (qC.getD i default):=rfl
 have g2:qC.getD 2 default=⟨[44],1,0,0,true,false,[]⟩:=rfl;have g3:qC.getD 3 default=⟨[101,116],1,0,0,false,false,[]⟩:=rfl;simp (disch:=omega) only[zq,wdC,go_sem]
 repeat' first
  |(apply qb;exact rvk;simp only[go_sem];exact qi)
  |with_reducible first|intro _|apply aiA
 all_goals try exact clz
theorem qh4.esE{x:Co}{l:List Un}{d:List Dc}{s:Nat}(h:qh4 x l d s):esE x l d s=0:=by
 have h1:vaE x l=0:=by
  unfold vaE;rw[ine (fun hc=>hc h.ca),ine];unfold rgB;rw[h.us,h.cv];simp
 have h2:qbY x l d=0:=by
  unfold qbY;rw[ine (by have:=h.dl;omega)];exact jO.2 h.pl
 have:=h.sl
 have:=h.ln
 unfold RC.esE;rw[h1,h2,ine (by simp),ine om,ine (by simp),ine (by rw[itn];omega)]
end RC
end
section
open Go Go.Proofs AF
end
section
open Go Go.Proofs AF HY LN
namespace RC
theorem qCT{a:Cq}(h:mdB a=true):CqS a∧0≤a.lead∧qh4 a.x a.l a.d a.lead.toNat∧mdR a=bsW (rwA a.x a.l a.d a.lead.toNat):=by
 unfold mdB at h;rw[Bool.and_eq_true,Bool.not_eq_true',decide_eq_true_iff]at h;obtain⟨h1,h2⟩:=h;obtain⟨h3,h4⟩:=qx0 h2;refine⟨qsd h1,h3,h4,?_⟩;unfold mdR;rw[ine (by simp[h1])];unfold esR;rw[ipo h2]
end RC
end
section
open Go Go.Proofs AF
def qug:List Nat:= []
def c8s:C:=
 ((C.ops [O1 2 (.box 0 75) 0,MC 4 (.bool false)]).seq ((C.ops [O1 18 (.load (some 7)) 2,O1 19 (.call 39 true) 18,MV 17 19,O1 20 (.ext 0) 17,O1 21 (.ext 1) 17,MV 5 20,MV 6
 21]).seq (((C.ops [MV 22 6,O1 23 (.un UnOp.not) 22,MV 24 23,P1 25 24 false (.fldA 0) 2,P1 26 24 false (.fldA 1) 25,P1 27 24 false (.load none) 26,P1 28 24 false .len 27,PC
 29 24 false (.bin .eql) 28 (i6 0),PT 30 24 29]).seq (C.cond (.t 30) ((C.ops [ON 31 (.call 40 true) [],MV 4 31]).seq C.ret) C.skip)).seq ((C.ops [MV 32 1,O1 33 (.conv .i64) 32,
 O1 34 (.fldA 0) 2,O1 35 (.fldA 1) 34,LD 36 35,O1 37 .len 36,BI 38 .rem 33 37,MV 7 38]).seq ((C.ops [ON 8 (.nilo 1 1 9) []]).seq (((C.ops [O1 39 (.fldA 0) 2,O1 40 (.fldA 3)
 39,LD 41 40,O1 42 .len 41,MC 43 (i6 0)]).seq (C.block 0 ((C.ops [BI 44 .lss 43 42]).seq ((C.cond (.t 44) C.skip (C.exit 0)).seq ((C.block 1 ((C.ops [MV 45 43,MV 9 45]).seq
 ((C.ops [O1 47 (.fldA 4) 2,LD 48 47,MV 49 9,O2 50 (.call 42 true) 48 49,MV 46 50,O1 51 (.ext 0) 46,O1 52 (.ext 1) 46,MV 10 51,MV 11 52]).seq ((C.ops [O1 54 (.fldA 0) 2,O1
 55 (.load (some 4)) 54,MV 56 9,O2 57 (.call 45 true) 55 56,MV 53 57,O1 58 (.ext 0) 53,O1 59 (.ext 1) 53,MV 12 58,MV 13 59]).seq (((C.ops [MV 60 11,BC 61 .neq 60 (i6 0),MV
 62 61,MG 63 62 false 13,PC 64 62 false (.bin .neq) 63 (i6 0),PT 65 62 64]).seq (C.cond (.t 65) ((C.ops [MC 4 (.bool false)]).seq C.ret) C.skip)).seq ((C.ops [MV 66 10,BC 67
 .lss 66 (i6 0)]).seq (C.cond (.t 67) (C.ops [MV 68 8,MV 69 12,MV 70 7,O2 71 (.idxA 1) 69 70,LD 72 71,⟨some 73,none,.bslc 2 1 1 9 [.str []] [(0,1)],[.t 72]⟩,O2 74 (.app 3
 1 9 16) 68 73,MV 8 74]) C.skip))))))).seq (C.ops [BC 75 .add 43 (i6 1),MV 43 75])))).loop)).seq ((C.ops [ON 14 (.nilo 4 1 9) []]).seq (((C.ops [MV 76 5,O1 77 .len 76,MC 78 (i6
 0)]).seq (C.block 2 ((C.ops [BI 79 .lss 78 77]).seq ((C.cond (.t 79) C.skip (C.exit 2)).seq ((C.block 3 ((C.ops [O2 80 (.idxA 7) 76 78,O1 81 (.load (some 7)) 80,⟨some 16,none,
 .alloc 5 36 [.str [],i6 0,i6 0,i6 0,.bool false,.bool false,.str []],[]⟩,ST 7 16 81]).seq ((C.ops [O1 82 (.fldA 2) 16,LD 83 82,BC 84 .lss 83 (i6 0)]).seq (C.cond (.t 84)
 (C.ops [MV 85 14,O1 86 (.fldA 0) 16,LD 87 86,⟨some 88,none,.bslc 6 1 1 9 [.str []] [(0,1)],[.t 87]⟩,O2 89 (.app 7 1 9 16) 85 88,MV 14 89]) C.skip)))).seq (C.ops [BC 90
 .add 78 (i6 1),MV 78 90])))).loop)).seq ((C.ops [MV 91 14,MV 92 8,O2 93 (.call 36 true) 91 92,MV 94 93,PN 95 94 true (.call 40 true) [],PF 96 94 95,MV 4 96]).seq
 C.ret)))))))))
theorem qDW:qL Tryz.prog 8 97 8 [RV.tmp 4] c8s:=fi Tryz.f8 [2,8,73,74,14,16,88,89] qug []
end
section
open Go Go.Proofs AF HY LN
namespace RC
def qdI(x:Co)(c k:Nat):List Str:=(List.range x.sig.length).map fun s=>if s<k then (clT x c s).getD [] else []
theorem qeb(x:Co)(c k:Nat):(qdI x c k).length=x.sig.length:=by simp[qdI]
theorem qlf(x:Co)(c:Nat):qdI x c 0=List.replicate x.sig.length []:=by
 unfold qdI;refine List.ext_getElem (by simp) fun i h1 h2=> ?_
 simp
theorem qbi{x:Co}{c k i:Nat}(hi:i<(qdI x c k).length):(qdI x c k)[i]=if i<k then (clT x c i).getD [] else []:=by simp[qdI]
theorem qph{x:Co}{c k:Nat}(hk:k<x.sig.length):qdI x c (k+1)=(qdI x c k).set k ((clT x c k).getD []):=by
 refine List.ext_getElem (by simp[qdI]) fun i h1 h2=> ?_
 rw[List.getElem_set,qbi]
 by_cases e:k=i
 ·subst e;rw[ipo rfl,ipo om]
 ·rw[ine e,qbi]
  by_cases g:i<k
  ·rw[ipo om,ipo g]
  ·rw[ine om,ine g]
theorem qle{x:Co}{c k:Nat}(h:clT x c k=none):qdI x c (k+1)=qdI x c k:=by
 refine List.ext_getElem (by simp[qdI]) fun i h1 h2=> ?_
 rw[qbi,qbi]
 by_cases e:i=k
 ·subst e;rw[ipo om,ine om,h];rfl
 ·by_cases g:i<k
  ·rw[ipo om,ipo g]
  ·rw[ine om,ine g]
theorem qtr{x:Co}{c s:Nat}(hs:s<x.sig.length):(qdI x c x.sig.length).getD s []=(clT x c s).getD []:=by
 rw[gdqA,zH (by rw[qeb];exact hs),Option.getD_some,qbi,ipo hs]
theorem qmd: ∀n,ze [.str []] n=jt (List.replicate n []):=by
 intro n
 induction n with
 |zero=>rfl
 |succ n ih=>
  show [AV.str []]++ze [.str []] n=_;rw[ih,List.replicate_succ];rfl
theorem qhM(L:List Str)(k:Nat)(s:Str)(hk:k<L.length):List.take k (jt L)++ [AV.str s]++List.drop (k+1) (jt L)=jt (L.set k s):=by
 unfold jt;rw[List.set_eq_take_append_cons_drop,ipo hk];simp[List.map_append,List.map_take,List.map_drop]
theorem qEs(x:Co)(c:Nat)(h:List AObj)(ho:CoOk x)(hc:c<x.col.length):ACalls Tryz.prog 96 [.agg (coC x),.int .i64 (c:Int)] h (strs (qdI x c x.sig.length)) h:=by
 have hsg:=ho.sg;have hcl:=ho.cl c hc;have hce:=ho.ce c hc;have htn:=ho.tn;have zg1: ∀g,valL g .len [strs x.sig]= .int .i64 x.sig.length:=fun _=>rfl
 have zg2: ∀g,okL g .len [strs x.sig]=True:=fun _=>eqt trivial
 have zc0:qv x.col= .sl x.col.length fun i=> [qG (x.col.getD i [])]:=rfl
 have k1:((c:Int)<x.col.length)=True:=eqt om;have k2:(0≤(c:Int))=True:=eqt om;obtain⟨row,hrow⟩: ∃row,row=x.col.getD c []:=⟨_,rfl⟩
 have erow:=hrow.symm;have hrl:row.length=x.sig.length:=by rw[hrow];exact hcl
 have zr1: ∀g,valL g .len [qG row]= .int .i64 x.sig.length:=fun _=>by rw[←hcl,erow];rfl
 have zr2: ∀g,okL g .len [qG row]=True:=fun _=>eqt trivial
 refine acO qCD ?_;simp (disch:=omega) only[qDR,coC,zg1,zg2,zc0,k1,k2,erow,zr1,zr2,go_sem]
 repeat' first
  |((first|apply qb|apply qd);exact rvk;simp only[go_sem];first|exact qi|apply qf|apply qe|apply jA|skip)
  |with_reducible first|intro _|apply aiA
 all_goals try exact clz
 rw[qmd,←qlf x c,←zc0];have zr0:qG row= .sl row.length fun i=> [.int .i64 (row.getD i 0)]:=rfl
 have zt0:qm x.tok= .sl x.tok.length fun i=> [zO (x.tok.getD i [])]:=rfl
 refine qt (T:=fun k:Nat=>qY 39 [(2,.op h.length 1 0),(5,.osl (h.length+2) 1 1 0 x.sig.length),(16,qG row),(17,.int .i64 x.sig.length),(18,.int .i64 k)])
  (H:=fun k=>h++ [.mem 1 26 (coC x),.emp 1,.mem 1 9 (jt (qdI x c k))])
  (inv:=fun k=>k≤x.sig.length) (m:=fun k=>x.sig.length-k) 0 (nzl _) (Wk.temps ?_) ?_
 ·(simp only[coC,go_sem,qh,qc,qa,qg];try (repeat' first|(with_reducible apply aiA)|(apply qf;omega)|(apply qe;rfl)|exact qi))
 rintro k i1 K hK;have hLl:=qeb x c k;have hLc:=kk (qdI x c k)
 by_cases hk:k<x.sig.length
 ·have m1:((k:Int)<x.sig.length)=True:=eqt om;have m2:(0≤(k:Int))=True:=eqt om;have m3:((k:Int)<row.length)=True:=eqt om;have m4:((k:Int)<x.tok.length)=True:=eqt om;have hrk:row.getD k 0=(x.col.getD c []).getD k 0:=by rw[hrow]
  have hcT:clT x c k=if row.getD k 0<0 then none else some ((x.tok.getD k []).getD (row.getD k 0).toNat default).text:=by unfold clT;rw[hrow]
  have hbd:=hce k hk;rw[←hrow]at hbd;obtain⟨y,hy⟩: ∃y,y=row.getD k 0:=⟨_,rfl⟩
  have ey:=hy.symm;rw[ey]at hcT hbd
  by_cases g:0≤y
  ·have q1:(0≤y)=True:=eqt g;rw[ine om]at hcT;have hst:=qph (c:=c) hk;rw[hcT,Option.getD_some]at hst;obtain⟨tk,htk⟩: ∃tk,tk=x.tok.getD k []:=⟨_,rfl⟩
   have etk:=htk.symm;rw[etk]at hst hbd;have zk0:zO tk= .sl tk.length fun i=>tkC (tk.getD i default):=rfl
   have q2:(y<(tk.length:Int))=True:=eqt om;obtain⟨t,ht⟩: ∃t,t=tk.getD y.toNat default:=⟨_,rfl⟩
   have et:=ht.symm;rw[et]at hst;simp (disch:=omega) only[zr0,zt0,coC,m1,m2,m3,m4,ey,q1,etk,zk0,q2,et,tkC,hLc,hLl,go_sem]
   repeat' first
    |((first|apply qb|apply qd);exact rvk;simp only[go_sem];first|exact qi|apply qf|apply qe|apply jA|skip)
    |with_reducible first|intro _|apply aiA
   all_goals try exact clz
   have eB:=qhM (qdI x c k) k t.text om;rw[←hst]at eB
   try rw[eB]
   refine hK _ _ (k+1) hk om (Wk.temps ?_)
   (simp only[coC,go_sem,qh,qc,qa,qg];try (repeat' first|(with_reducible apply aiA)|(apply qf;omega)|(apply qe;rfl)|exact qi))
  ·have q1:(0≤y)=False:=eqf g;rw[ipo om]at hcT;have hst:=qle hcT;simp (disch:=omega) only[zr0,m1,m2,m3,ey,q1,go_sem]
   repeat' first
    |((first|apply qb|apply qd);exact rvk;simp only[go_sem];first|exact qi|apply qf|apply qe|apply jA|skip)
    |with_reducible first|intro _|apply aiA
   all_goals try exact clz
   rw[←hst];refine hK _ _ (k+1) hk om (Wk.temps ?_)
   (simp only[coC,go_sem,qh,qc,qa,qg];try (repeat' first|(with_reducible apply aiA)|(apply qf;omega)|(apply qe;rfl)|exact qi))
 have m1:((k:Int)<x.sig.length)=False:=eqf om;obtain rfl:k=x.sig.length:=by omega
 simp (disch:=omega) only[m1,go_sem]
 repeat' first
  |((first|apply qb|apply qd);exact rvk;simp only[go_sem];first|exact qi|apply qf|apply qe|apply jA|skip)
  |with_reducible first|intro _|apply aiA
 all_goals try exact clz
 rw[ipo (by rw[hLc,hLl];exact nlr _)];exact qhN _ (fun _=>rfl) hLl.symm
theorem qEt(x:Co)(c:Nat)(h:List AObj)(hz:qdA x)(hp:kR SG h)(h1:coE x=0)(hc:c<x.col.length):ACalls Tryz.prog 45 [.agg (coC x),.int .i64 (c:Int)] h (.tup [strs (qdI x c x.sig.length),.int .i64 0]) h:=by
 have c1:=fun l'=>coP x (h++l') hz (hp.app l')
 simp only[h1]at c1;have c2:=fun h=>qEs x c h (qbh h1) hc
 have zc1: ∀g,valL g .len [qv x.col]= .int .i64 x.col.length:=fun _=>rfl
 have zc2: ∀g,okL g .len [qv x.col]=True:=fun _=>eqt trivial
 have k1:((c:Int)<0)=False:=eqf om;have k2:((x.col.length:Int)≤c)=False:=eqf om;unfold coC at c1 c2;refine acO qCs ?_;simp (disch:=omega) only[qDH,coC,zc1,zc2,go_sem]
 repeat' first
  |((first|refine cA (c1 _) ?_ ?_|refine cG (fun e=>c1 _) ?_ ?_|refine cA (c2 _) ?_ ?_|refine cG (fun e=>c2 _) ?_ ?_|refine cU (fun _=>c1 _) ?_ ?_|refine cU (fun _=>c2 _) ?_ ?_);exact flk;simp (disch:=omega) only[coC,zc1,zc2,k1,k2,go_sem])
  |((first|apply qb|apply qd);exact rvk;simp only[go_sem];first|exact qi|apply qf|apply qe|apply jA|skip)
  |with_reducible first|intro _|apply aiA
 all_goals try exact clz
end RC
end
section
open Go Go.Proofs AF
end
section
open Go Go.Proofs AF HY LN
namespace RC
theorem qh4.va{x:Co}{l:List Un}{d:List Dc}{s:Nat}(h:qh4 x l d s):vaE x l=0:=by
 unfold vaE;rw[ine (fun hc=>hc h.ca),ine];unfold rgB;rw[h.us,h.cv];simp
theorem qAJ(p:Int→Bool)(b:List Wd): ∀n,(txG p b n).length≤n:=by
 intro n
 induction n with
 |zero=>exact nlr _
 |succ n ih=>
  unfold txG;rw[lap];split
  ·simp only[lco,lnl];omega
  ·simp only[lnl];omega
theorem qrP(x:Co)(l:List Un)(s:Nat): ∀n,(cmL x l s n).length≤n:=by
 intro n
 induction n with
 |zero=>exact nlr _
 |succ n ih=>
  unfold cmL;rw[lap];split
  ·simp only[lco,lnl];omega
  ·simp only[lnl];omega
theorem qzL(a:Cq)(q:Nat)(h:List AObj)(hq:q≤255)(hp:kR SG h)(hg:zS h frmN frmC)(hb:CqB a):ACalls Tryz.prog 8 [.agg (cqC a),.int .u8 (q:Int)] h (.bool true) h:=by
 have c1:=fun l'=>qCS a (h++l') hb (hp.app l') hg.app
 have c2:=fun l'=>qBI (h++l') (hp.app l') hg.app
 obtain⟨B,hB⟩: ∃B,B=mdB a:=⟨_,rfl⟩
 obtain⟨R,hR⟩: ∃R,R=mdR a:=⟨_,rfl⟩
 simp only[←hB,←hR]at c1;unfold cqC at c1;cases B with
 |false=>
  refine acO qDW ?_;simp (disch:=omega) only[c8s,cqC,go_sem]
  repeat' first
   |((first|refine cA (c1 _) ?_ ?_|refine cG (fun e=>c1 _) ?_ ?_|refine cA (c2 _) ?_ ?_|refine cG (fun e=>c2 _) ?_ ?_|refine cU (fun _=>c1 _) ?_ ?_|refine cU (fun _=>c2 _) ?_ ?_);exact flk;simp (disch:=omega) only[cqC,go_sem])
   |((first|apply qb|apply qd);exact rvk;simp only[go_sem];first|exact qi|apply qf|apply qe|apply jA|skip)
   |with_reducible first|intro _|apply aiA
  all_goals try exact clz
 |true=>
 obtain⟨z,e0,E,hRe⟩:=qCT hB.symm;rw[←hR]at hRe;have zx:=z.x;have zu:=z.l;have zl:=zu.n;have zcl:=z.cl;have hln:=E.ln;have hsg:=E.co.sg;have hlen:R.length=(rwA a.x a.l a.d a.lead.toNat).length:=by rw[hRe,qad]
 obtain⟨s,hs⟩: ∃s,s=q%a.x.sig.length:=⟨_,rfl⟩
 have hsl:s<a.x.sig.length:=by rw[hs];exact Nat.mod_lt _ hsg.1
 have hn1:(q:Int)%(a.x.sig.length:Int)=(s:Int):=by rw[hs];omega
 have k0:((a.x.sig.length:Int)=0)=False:=eqf om;have zg1: ∀g,valL g .len [strs a.x.sig]= .int .i64 a.x.sig.length:=fun _=>rfl
 have zg2: ∀g,okL g .len [strs a.x.sig]=True:=fun _=>eqt trivial
 have zc1: ∀g,valL g .len [qv a.x.col]= .int .i64 a.x.col.length:=fun _=>rfl
 have zc2: ∀g,okL g .len [qv a.x.col]=True:=fun _=>eqt trivial
 have zR1: ∀g,valL g .len [qbb R]= .int .i64 R.length:=fun _=>rfl
 have zR2: ∀g,okL g .len [qbb R]=True:=fun _=>eqt trivial
 obtain⟨W,hW⟩: ∃W,W=cmL a.x a.l s a.x.col.length:=⟨_,rfl⟩
 have hend:txG (fun u=>decide (u<0)) R R.length=W:=by
  rw[hRe,qxK E,hW];exact qxI E.cv E.co E.sl hsl _ (nlr _)
 have hWl:W.length≤1000000:=by rw[hW];have:=qrP a.x a.l s a.x.col.length;omega
 refine acO qDW ?_;simp (disch:=omega) only[c8s,cqC,zg1,zg2,k0,hn1,go_sem]
 repeat' first
  |((first|refine cA (c1 _) ?_ ?_|refine cG (fun e=>c1 _) ?_ ?_|refine cU (fun _=>c1 _) ?_ ?_);exact flk;simp (disch:=omega) only[cqC,zg1,zg2,k0,hn1,zc1,zc2,go_sem])
  |((first|apply qb|apply qd);exact rvk;simp only[go_sem];first|exact qi|apply qf|apply qe|apply jA|skip)
  |with_reducible first|intro _|apply aiA
 all_goals try exact clz
 refine qt (T:=fun i:Nat×Nat×AObj=>qY 97 [(2,.op h.length 1 0),(5,qbb R),(7,.int .i64 s),(8,.osl (h.length+1) i.2.1 1 0 (cmL a.x a.l s i.1).length),(42,.int .i64 a.x.col.length),(43,.int .i64 i.1)])
  (H:=fun i=>h++ [.mem 1 75 (cqC a),qZ i.2.1 9 (jt (cmL a.x a.l s i.1)),i.2.2,.emp 0,.emp 0,.emp 0,.emp 0,.emp 0])
  (inv:=fun i=>i.1≤a.x.col.length∧qI [i.2.2] 0=true) (m:=fun i=>a.x.col.length-i.1) (0,1,.emp 0) ⟨nzl _,rfl⟩ (Wk.temps ?_) ?_
 ·(simp only[cqC,cmL,go_sem,qh,qc,qa,qg];try (repeat' first|(with_reducible apply aiA)|(apply qf;omega)|(apply qe;rfl)|exact qi))
 rintro⟨i,v,O⟩ ⟨i1,i2⟩ K hK;simp only at i1 i2 hK;have i2': ∀m,qI (O::m) 0=true:=fun _=>i2
 have hle:=qrP a.x a.l s i
 by_cases hi:i<a.x.col.length
 ·have k1:((i:Int)<a.x.col.length)=True:=eqt om;have hS:cmL a.x a.l s (i+1)=cmL a.x a.l s i++if fnU a.l (i:Int)<0 then [(clT a.x i s).getD []] else []:=rfl
  have c3:=fun h=>qBy a.l i h zl
  have eR:fnR a.l i=fnU a.l i:=by unfold fnR;rw[ine om]
  have eE:fnE i=0:=by unfold fnE;rw[ine om]
  rw[eR,eE]at c3;have c4:=fun l'=>qEt a.x i (h++l') zx (hp.app l') E.ca hi
  have hat:=qtr (x:=a.x) (c:=i) hsl;have hCl:=qeb a.x i a.x.sig.length;obtain⟨u,hu⟩: ∃u,u=fnU a.l (i:Int):=⟨_,rfl⟩
  rw[←hu]at c3 hS;obtain⟨C,hC⟩: ∃C,C=qdI a.x i a.x.sig.length:=⟨_,rfl⟩
  rw[←hC]at hat hCl;simp only[←hC]at c4;obtain⟨t,ht⟩: ∃t,t=(clT a.x i s).getD []:=⟨_,rfl⟩
  rw[←ht]at hS hat;obtain⟨L,hL⟩: ∃L,L=cmL a.x a.l s i:=⟨_,rfl⟩
  rw[←hL]at hS hle ⊢;have eC:=kk L;have eTk:List.take L.length (jt L)=jt L:=ltl om;have zC0:strs C= .sl C.length fun j=> [.str (C.getD j [])]:=rfl
  have k2:(0≤(s:Int))=True:=eqt om;have k3:((s:Int)<C.length)=True:=eqt om;unfold coC at c4
  by_cases g:u<0
  ·have q1:(u<0)=True:=eqt g;rw[ipo g]at hS;simp (disch:=omega) only[cqC,k1,i2',go_sem]
   repeat' first
    |((first|refine cA (c3 _) ?_ ?_|refine cG (fun e=>c3 _) ?_ ?_|refine cA (c4 _) ?_ ?_|refine cG (fun e=>c4 _) ?_ ?_|refine cU (fun _=>c3 _) ?_ ?_|refine cU (fun _=>c4 _) ?_ ?_);exact flk;simp (disch:=omega) only[cqC,k1,i2',q1,zC0,k2,k3,hat,eC,eTk,Nat.mul_one,go_sem])
    |((first|apply qb|apply qd);exact rvk;simp only[go_sem];first|exact qi|apply qf|apply qe|apply jA|skip)
    |with_reducible first|intro _|apply aiA
   all_goals try exact clz
   have eA:jt L++ [AV.str t]=jt (L++ [t]):=by simp[jt]
   try rw[eA]
   refine hK _ _ (i+1,v+1,.mem (qq (some O)+1) 9 [.str t]) ⟨hi,rfl⟩ (by simp only;omega) ?_;simp only[hS,lap,lco,lnl];refine Wk.temps ?_
   (simp only[cqC,go_sem,qh,qc,qa,qg];try (repeat' first|(with_reducible apply aiA)|(apply qf;omega)|(apply qe;rfl)|exact qi))
  ·have q1:(u<0)=False:=eqf g;rw[ine g,lan]at hS;simp (disch:=omega) only[cqC,k1,i2',go_sem]
   repeat' first
    |((first|refine cA (c3 _) ?_ ?_|refine cG (fun e=>c3 _) ?_ ?_|refine cA (c4 _) ?_ ?_|refine cG (fun e=>c4 _) ?_ ?_|refine cU (fun _=>c3 _) ?_ ?_|refine cU (fun _=>c4 _) ?_ ?_);exact flk;simp (disch:=omega) only[cqC,k1,i2',q1,go_sem])
    |((first|apply qb|apply qd);exact rvk;simp only[go_sem];first|exact qi|apply qf|apply qe|apply jA|skip)
    |with_reducible first|intro _|apply aiA
   all_goals try exact clz
   refine hK _ _ (i+1,v,O) ⟨hi,i2⟩ (by simp only;omega) ?_;simp only[hS];refine Wk.temps ?_
   (simp only[cqC,go_sem,qh,qc,qa,qg];try (repeat' first|(with_reducible apply aiA)|(apply qf;omega)|(apply qe;rfl)|exact qi))
 have k1:((i:Int)<a.x.col.length)=False:=eqf om;obtain rfl:i=a.x.col.length:=by omega
 rw[←hW]at hle ⊢;simp (disch:=omega) only[k1,zR1,zR2,go_sem]
 repeat' first
  |((first|apply qb|apply qd);exact rvk;simp only[go_sem];first|exact qi|apply qf|apply qe|apply jA|skip)
  |with_reducible first|intro _|apply aiA
 all_goals try exact clz
 refine qt (T:=fun i:Nat×Nat×AObj×AObj=>qY 97 [(8,.osl (h.length+1) v 1 0 W.length),(14,.osl (h.length+4) i.2.1 1 0 (txG (fun u=>decide (u<0)) R i.1).length),(76,qbb R),(77,.int .i64 R.length),(78,.int .i64 i.1)])
  (H:=fun i=>h++ [.mem 1 75 (cqC a),qZ v 9 (jt W),O,.emp 0,qZ i.2.1 9 (jt (txG (fun u=>decide (u<0)) R i.1)),i.2.2.1,i.2.2.2,.emp 0])
  (inv:=fun i=>i.1≤R.length∧qI [i.2.2.1] 0=true∧qI [i.2.2.2] 0=true) (m:=fun i=>R.length-i.1) (0,1,.emp 0,.emp 0) ⟨nzl _,rfl,rfl⟩ (Wk.temps ?_) ?_
 ·(simp only[cqC,txG,go_sem,qh,qc,qa,qg];try (repeat' first|(with_reducible apply aiA)|(apply qf;omega)|(apply qe;rfl)|exact qi))
 clear hK;rintro⟨i,v2,P1,P2⟩ ⟨j1,j2,j3⟩ K hK;simp only at j1 j2 j3 hK;have j2': ∀m,qI (P1::m) 0=true:=fun _=>j2
 have j3': ∀m,qI (P2::m) 0=true:=fun _=>j3
 have hle2:=qAJ (fun u=>decide (u<0)) R i;have zr0:qbb R= .sl R.length fun i=>wdC (R.getD i default):=rfl
 by_cases hi:i<R.length
 ·have k1:((i:Int)<R.length)=True:=eqt om;have hS:txG (fun u=>decide (u<0)) R (i+1)=txG (fun u=>decide (u<0)) R i++if decide ((R.getD i default).unit<0)=true then [(R.getD i default).text] else []:=rfl
  obtain⟨w,hw⟩: ∃w,w=R.getD i default:=⟨_,rfl⟩
  have ew:=hw.symm;rw[ew]at hS;obtain⟨L,hL⟩: ∃L,L=txG (fun u=>decide (u<0)) R i:=⟨_,rfl⟩
  rw[←hL]at hS hle2 ⊢;have eC:=kk L;have eTk:List.take L.length (jt L)=jt L:=ltl om
  by_cases g:w.unit<0
  ·have q1:(w.unit<0)=True:=eqt g;rw[ipo (dqt g)]at hS;simp (disch:=omega) only[zr0,wdC,k1,ew,j2',j3',q1,eC,eTk,Nat.mul_one,go_sem]
   repeat' first
    |((first|apply qb|apply qd);exact rvk;simp only[go_sem];first|exact qi|apply qf|apply qe|apply jA|skip)
    |with_reducible first|intro _|apply aiA
   all_goals try exact clz
   have eA:jt L++ [AV.str w.text]=jt (L++ [w.text]):=by simp[jt]
   try rw[eA]
   refine hK _ _ (i+1,v2+1,.mem (qq (some P1)+1) 36 (wdC w),.mem (qq (some P2)+1) 9 [.str w.text]) ⟨hi,rfl,rfl⟩ (by simp only;omega) ?_;simp only[hS,wdC,lap,lco,lnl];refine Wk.temps ?_
   (simp only[cqC,go_sem,qh,qc,qa,qg];try (repeat' first|(with_reducible apply aiA)|(apply qf;omega)|(apply qe;rfl)|exact qi))
  ·have q1:(w.unit<0)=False:=eqf g;rw[ine (by simpa using g),lan]at hS;simp (disch:=omega) only[zr0,wdC,k1,ew,j2',j3',q1,go_sem]
   repeat' first
    |((first|apply qb|apply qd);exact rvk;simp only[go_sem];first|exact qi|apply qf|apply qe|apply jA|skip)
    |with_reducible first|intro _|apply aiA
   all_goals try exact clz
   refine hK _ _ (i+1,v2,.mem (qq (some P1)+1) 36 (wdC w),P2) ⟨hi,rfl,j3⟩ (by simp only;omega) ?_;simp only[hS,wdC];refine Wk.temps ?_
   (simp only[cqC,go_sem,qh,qc,qa,qg];try (repeat' first|(with_reducible apply aiA)|(apply qf;omega)|(apply qe;rfl)|exact qi))
 have k1:((i:Int)<R.length)=False:=eqf om;obtain rfl:i=R.length:=by omega
 rw[hend];simp (disch:=omega) only[k1,go_sem]
 repeat' first
  |((first|apply qb|apply qd);exact rvk;simp only[go_sem];first|exact qi|apply qf|apply qe|apply jA|skip)
  |with_reducible first|intro _|apply aiA
 all_goals try exact clz
 refine cA (ACalls.borrow ((eqS W [] om).le ?a1 (qi)) rfl) (by exact flk) ?_
 case a1=>
  simp only[List.map_cons,List.map_nil,rei_osl,if_true,go_sem];exact⟨qbC (fun _=>rfl) rfl,qbC (fun _=>rfl) rfl,trivial⟩
 simp (disch:=omega) only[go_sem]
 repeat' first
  |((first|refine cA (c2 _) ?_ ?_|refine cG (fun e=>c2 _) ?_ ?_|refine cU (fun _=>c2 _) ?_ ?_);exact flk;simp (disch:=omega) only[go_sem])
  |((first|apply qb|apply qd);exact rvk;simp only[go_sem];first|exact qi|apply qf|apply qe|apply jA|skip)
  |with_reducible first|intro _|apply aiA
 all_goals try exact clz
end RC
end
section
open Go Go.Proofs AF HY Go.ChangeShapes Go.RowKit
namespace LN
theorem qCG : Tryz.prog.globalNamed "internal/strconv.uint64pow10" = some 4 := by kernel_rfl
theorem qCI : Tryz.prog.globalNamed "strconv.ErrSyntax" = some 5 := by kernel_rfl
theorem qCH : Tryz.prog.globalNamed "strconv.ErrRange" = some 6 := by kernel_rfl
theorem qDX : Tryz.prog.globalNamed "apograph/transcript.forms" = some 3 := by kernel_rfl
theorem qqx{w w':World}(h:qsB w)(e:w'.heap[4]? =w.heap[4]?):qsB w':=by
 unfold qsB Lib.TabIs at*;rw[qeP qCG e];exact h
theorem qgE : "*" ++ "errors.errorString" = "*errors.errorString" := by decide
theorem qss (u : TypeId) (h : Tryz.prog.typeName? 3 u = some "*errors.errorString") : u = 329 :=
 typeName_ptr_named (nm := "errors.errorString") (by rw [qgE]; kernel_rfl) (by kernel_rfl) (by decide) u (by rw [qgE]; exact h)
structure Fr where
 s:List UInt8
 a:Bool
 b:Bool
 c:Bool
def Fr.av(r:Fr):List AV:= [.str r.s,.bool r.a,.bool r.b,.bool r.c]
def Fr.vl(r:Fr):List Value:= [.string ⟨r.s.toArray⟩,.bool r.a,.bool r.b,.bool r.c]
def Fr.da{H:Type}(r:Fr):DataW H:= .agg [.lit (.string r.s),.lit (.bool r.a),.lit (.bool r.b),.lit (.bool r.c)]
def frL:List Fr:= [⟨[],false,false,false⟩,⟨[],true,false,false⟩,⟨[108,98],false,false,false⟩,⟨[112,98],true,false,false⟩,⟨[115,101,99],true,false,false⟩,⟨[118],false,false,false⟩,
 ⟨[103,97,112],false,true,false⟩,⟨[117,110,99,108,101,97,114],false,false,true⟩,⟨[97,100,100],false,true,true⟩,⟨[100,101,108],false,true,true⟩,⟨[97,98],true,false,true⟩,⟨[110,97,109,101],true,false,true⟩]
theorem qzr:RC.frmC=frL.flatMap Fr.av:=rfl
theorem qzs:(YthjkfdakolejgaaGreatDoor.Rows.laid_apograph_transcript_forms:DataW Unit)= .agg (frL.map Fr.da):=rfl
theorem qCl{α β:Type}{f:α→List β}(hf: ∀a,(f a).length=4): ∀(l:List α) (i j:Nat),j<4→(l.flatMap f)[i*4+j]? =(l[i]?).bind fun a=>(f a)[j]? :=by
 intro l
 induction l with
 |nil=>intro i j _;simp
 |cons a l ih=>
  intro i j hj;rw[List.flatMap_cons];cases i with
  |zero=>
   rw[Nat.zero_mul,Nat.zero_add,List.getElem?_append_left (by rw[hf];exact hj)];rfl
  |succ i=>
   rw[List.getElem?_append_right (by rw[hf];omega),hf,show (i+1)*4+j-4=i*4+j by omega,ih i j hj];rfl
theorem qdG:Tryz.prog.cellsOf 300=4:=by kernel_rfl
theorem qf7:Tryz.prog.cellsOf 301=48:=by kernel_rfl
theorem qo9:Tryz.prog.cellsOf 9=1:=by kernel_rfl
theorem qo7:Tryz.prog.cellsOf 4=1:=by kernel_rfl
theorem qAj{H:Type}{enc:TypeId×Value→H}{w:World}{base fuel:Nat}{spare:Nat→Bool}{held:Bool}{cs:List Value}{x:DataW H×List MemPlace}{r:Fr}
  (h:DataW.trod enc Tryz.prog w base spare held fuel 300 cs=some x) (hx:x.1=r.da):cs=r.vl:=by
 obtain⟨xs,n,_,hxe,hl,hxl,hf⟩:=DataW.trod_struct Tryz.underlying300 h;rw[qdG]at hl
 match cs,hl with
 | [v0,v1,v2,v3],_=>
 match xs,hxl with
 | [y0,y1,y2,y3],_=>
  have h0:DataW.trod enc Tryz.prog w base spare held n 9 (([v0,v1,v2,v3].drop 0).take (Tryz.prog.cellsOf 9))= [y0,y1,y2,y3][0]? :=hf 0 _ rfl;have h1:DataW.trod enc Tryz.prog w base spare held n 4 (([v0,v1,v2,v3].drop 1).take (Tryz.prog.cellsOf 4))= [y0,y1,y2,y3][1]? :=hf 1 _ rfl;have h2:DataW.trod enc Tryz.prog w base spare held n 4 (([v0,v1,v2,v3].drop 2).take (Tryz.prog.cellsOf 4))= [y0,y1,y2,y3][2]? :=hf 2 _ rfl;have h3:DataW.trod enc Tryz.prog w base spare held n 4 (([v0,v1,v2,v3].drop 3).take (Tryz.prog.cellsOf 4))= [y0,y1,y2,y3][3]? :=hf 3 _ rfl;rw[qo9]at h0;rw[qo7]at h1 h2 h3;obtain⟨s,e0,x0,_⟩:=DataW.trod_string Tryz.underlying9 h0;obtain⟨b1,e1,x1⟩:=DataW.trod_bool Tryz.underlying4 h1;obtain⟨b2,e2,x2⟩:=DataW.trod_bool Tryz.underlying4 h2;obtain⟨b3,e3,x3⟩:=DataW.trod_bool Tryz.underlying4 h3;have hy:([y0,y1,y2,y3]:List (DataW H×List MemPlace)).map (·.1)= [.lit (.string r.s),.lit (.bool r.a),.lit (.bool r.b),.lit (.bool r.c)]:=by
   have hx:=hxe▸hx;exact DataW.agg.inj hx
  rw[x0,x1,x2,x3]at hy;simp at hy e0 e1 e2 e3;obtain⟨g0,g1,g2,g3⟩:=hy;unfold Fr.vl;subst e0 e1 e2 e3;rw[←g0,g1,g2,g3]
theorem qCF {W : World} {rest : List (String × DataW Unit)} (h : laidMet Tryz.prog (("apograph/transcript.forms", YthjkfdakolejgaaGreatDoor.Rows.laid_apograph_transcript_forms) :: rest) W) : qh5 3 RC.frmC W := by
 obtain⟨ps,⟨g',t',cs,fuel,p,q,hg',ht',hvar,hd,_,_⟩,_⟩:=h;obtain rfl:=Option.some.inj (qDX.symm.trans hg');obtain rfl:301=t':=Option.some.inj ((show (Tryz.prog.globals[3]?).map (·.type)=some 301 by kernel_rfl).symm.trans ht');obtain⟨xs,m,_,hxe,hl,hxl,hr⟩:=DataW.trod_array Tryz.underlying301 hd;rw[qf7]at hl;have hxm:xs.map (·.1)=frL.map Fr.da:=by
  have:=congrArg Prod.fst hxe
  rw[qzs]at this;exact (DataW.agg.inj this).symm
 have rows: ∀i r,frL[i]? =some r→(cs.toList.drop (i*4)).take 4=r.vl:=fun i r hi=>by
  have hil:i<12:=(lgs.1 hi).1;have e1:(xs.map (·.1))[i]? =some r.da:=by rw[hxm,List.getElem?_map,hi];rfl
  rw[List.getElem?_map,Option.map_eq_some_iff]at e1;obtain⟨y,hy,hy1⟩:=e1;have h1:=hr i hil;rw[hy,qdG]at h1;exact qAj h1 hy1
 have hv: ∃T fz,W.heap[3]? =some (.cells cs T fz):=by
  unfold World.var? at hvar;rw[qDX]at hvar;simp only[Option.bind_some]at hvar;split at hvar
  ·rename_i c T fz hc;cases hvar;exact⟨_,_,hc⟩
  ·cases hvar
 obtain⟨T,fz,hc⟩:=hv;refine⟨cs,T,fz,hc,?_,?_⟩
 ·have:cs.size=48:=by simpa using hl
  rw[this];exact Nat.le_of_eq rfl
 intro i c x hi hx;have hij:i=i/4*4+i%4:=by omega
 rw[qzr,hij,qCl (fun _=>rfl) frL _ _ (Nat.mod_lt _ (by decide)),Option.bind_eq_some_iff]at hi;obtain⟨r,hr1,hr2⟩:=hi;have h2:=rows _ _ hr1;have h3:r.vl[i%4]? =some x:=by
  rw[←h2,List.getElem?_take,ipo (Nat.mod_lt _ (by decide)),List.getElem?_drop,←hij];simpa using hx
 have h4:i%4<4:=Nat.mod_lt _ (by decide);obtain⟨j,hj⟩: ∃j,j=i%4:=⟨_,rfl⟩
 rw[←hj]at hr2 h3 h4
 match j,h4 with
 |0,_=>cases hr2;cases h3;exact⟨rfl,fun _ _=> .str⟩
 |1,_=>cases hr2;cases h3;exact⟨rfl,fun _ _=> .bool⟩
 |2,_=>cases hr2;cases h3;exact⟨rfl,fun _ _=> .bool⟩
 |3,_=>cases hr2;cases h3;exact⟨rfl,fun _ _=> .bool⟩
theorem qtZ{w w':World}(h:qh5 3 RC.frmC w)(e:w'.heap[3]? =w.heap[3]?):qh5 3 RC.frmC w':=by
 obtain⟨arr,T,fz,h1,h2⟩:=h;exact⟨arr,T,fz,e.trans h1,h2⟩
def qcy:List Nat:= [3,4,5,6]
def qAw(w:World):Prop:=RC.SG w∧qh5 3 RC.frmC w
theorem qAx{W:World}(h:laidMet Tryz.prog YthjkfdakolejgaaGreatDoor.Rows.decisionSpacesRow.laid W):qsB W∧qBr W∧qh5 3 RC.frmC W:=by
 have h2:=laidMet.tail (laidMet.tail h);have h3:=laidMet.tail h2;have h4:=laidMet.tail h3;have h5:=laidMet.tail h4;obtain⟨a,s,e1,_⟩:=laid_sentinel (g:=6) (ti:=158) (tp:=329) (te:=331) (ts:=9) h3 qCH (by kernel_rfl) Tryz.underlying158 qss Tryz.underlying329 Tryz.underlying331 rfl rfl Tryz.underlying9 (by kernel_rfl) (by kernel_rfl);obtain⟨b,t,e2,_⟩:=laid_sentinel (g:=5) (ti:=158) (tp:=329) (te:=331) (ts:=9) h4 qCI (by kernel_rfl) Tryz.underlying158 qss Tryz.underlying329 Tryz.underlying331 rfl rfl Tryz.underlying9 (by kernel_rfl) (by kernel_rfl);exact⟨Lib.tabIs_of_head (t:=308) (e:=213) (n:=20) qCG (by kernel_rfl) Tryz.underlying308 Tryz.underlying213 (by kernel_rfl) (by kernel_rfl) h2,⟨⟨_,_,e2⟩,_,_,e1⟩,qCF h5⟩
theorem qqY{W:World}(h:laidMet Tryz.prog YthjkfdakolejgaaGreatDoor.Rows.decisionSpacesRow.laid W): ∀b,b∈qcy→ ∃arr T fz,W.heap[b]? =some (.cells arr T fz):=by
 intro b hb;obtain⟨h1,⟨⟨_,_,h2⟩,_,_,h3⟩,arr,T,fz,h4,_⟩:=qAx h;have e:b=3∨b=4∨b=5∨b=6:=by simpa[qcy] using hb
 rcases e with rfl|rfl|rfl|rfl
 ·exact⟨_,_,_,h4⟩
 ·exact qdk qCG h1
 ·exact qdk qCI h2
 ·exact qdk qCH h3
theorem qvp{W:World}(h:laidMet Tryz.prog YthjkfdakolejgaaGreatDoor.Rows.decisionSpacesRow.laid W): ∀w':World,(∀b,b∈qcy→w'.heap[b]? =W.heap[b]?)→qAw w':=by
 intro w' hs;obtain⟨h1,⟨⟨t1,p1,h2⟩,t2,p2,h3⟩,h4⟩:=qAx h;refine⟨⟨qqx h1 (hs 4 (by simp[qcy])),⟨t1,p1,?_⟩,t2,p2,?_⟩,qtZ h4 (hs 3 (by simp[qcy]))⟩
 ·rw[qeP qCI (hs 5 (by simp[qcy]))];exact h2
 ·rw[qeP qCH (hs 6 (by simp[qcy]))];exact h3
theorem qvo:kR RC.SG [.pin qcy qAw]:=⟨0,_,_,rfl,fun _ h=>h.1⟩
theorem qvn:zS [.pin qcy qAw] RC.frmN RC.frmC:=⟨0,_,_,rfl,by simp[qcy],fun _ h=>h.2⟩
end LN
end
