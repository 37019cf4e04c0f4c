import Derived.Test.YthjkfdakolejgaaGreatDoorK14
import Derived.Test.YthjkfdakolejgaaGreatDoorK15
import Derived.Test.YthjkfdakolejgaaGreatDoorK3
import Derived.Test.YthjkfdakolejgaaGreatDoorK5
import Derived.Test.YthjkfdakolejgaaGreatDoorK8
import Derived.Test.YthjkfdakolejgaaGreatDoorProg
import Derived.Test.YthjkfdakolejgaaGreatDoorK11
import Derived.Test.YthjkfdakolejgaaGreatDoorK12
import Derived.Test.YthjkfdakolejgaaGreatDoorK10
import Derived.Shelf.Strings.OnBuilder
import Derived.Test.YthjkfdakolejgaaGreatDoorK9
import Derived.Shelf.Slices.In.SortNone
import Derived.Lib.ItoaLen
set_option linter.all false
set_option linter.unusedSimpArgs false
set_option linter.unusedVariables false
set_option linter.unusedSectionVars false
set_option maxHeartbeats 256000000
set_option maxRecDepth 100000
section
open Go Go.Proofs AF HY LN
namespace RC
def qbA(x:Co)(l:List Un)(d:List Dc)(n:Nat):List Int:=(List.range l.length).map fun k=>qba x l d k n
theorem qhE(x:Co)(l:List Un)(d:List Dc)(n:Nat):(qbA x l d n).length=l.length:=by unfold qbA;simp
theorem quV{x:Co}{l:List Un}{d:List Dc}{n k:Nat}(hk:k<l.length):(qbA x l d n).getD k 0=qba x l d k n:=by
 unfold qbA;rw[gdqA,List.getElem?_map,List.getElem?_range hk];rfl
theorem qAi(x:Co)(l:List Un)(d:List Dc):qbA x l d 0=List.replicate l.length (-1):=by
 unfold qbA;refine List.ext_getElem (by simp) (fun i h1 h2=> ?_);simp[qba]
theorem qmx{x:Co}{l:List Un}{d:List Dc}{n k:Nat}(hk:k<l.length)(he:km x l (d.getD n default)=k):qbA x l d (n+1)=(qbA x l d n).set k (n:Int):=by
 unfold qbA;refine List.ext_getElem (by simp) (fun i h1 h2=> ?_);rw[List.getElem_set];simp only[List.getElem_map,List.getElem_range]
 by_cases g:k=i
 ·subst g;rw[ipo rfl];unfold qba;rw[ipo he]
 ·rw[ine g]
  conv=>lhs;unfold qba
  rw[ine (by rw[he];omega)]
theorem qAu{x:Co}{l:List Un}{d:List Dc}{i:Nat}(hi:i<d.length):(plG x l d d.length).getD i 0=km x l (d.getD i default):=by
 unfold plG;rw[List.take_length,gdqA,List.getElem?_map,zL hi,gdqA,zL hi];rfl
structure EsS where
 k:Nat
 vb:Nat
 O7:AObj
 O8:AObj
 O9:AObj
 O10:AObj
 O11:AObj
 O12:AObj
def rwK(x:Co)(l:List Un)(d:List Dc)(s k:Nat):List Rw:=if k≤l.length then rwL x l d s k else rwA x l d s
def nxT(x:Co)(l:List Un)(k:Nat):Nat:=if k≤l.length then jU l k else x.col.length
theorem qcU{v n:Nat}{L:List Wd}{ty:TypeId}{fz:Nat→Bool}{h:List AObj}{d:Nat}(hn:n=L.length):VLe (qhW (some (zk v ty (jl L))) v 7 0 n (rei fz h (d+1))) (kX L):=by
 subst hn;unfold zk;split
 ·rename_i e
  have:L= []:=by
   cases L with
   |nil=>rfl
   |cons a r=>exact absurd e (by simp[jl,wdC])
  subst this;rw[slOf_emp,ipo rfl];exact zf
 ·rw[slOf_mem,ipo ⟨rfl,by rw[qe1];omega⟩];refine VLe.sl_eq rfl (fun i hi=> ?_);simp only[Nat.zero_add];rw[qif hi];rfl
theorem qAP{x:Co}{l:List Un}{d:List Dc}{s:Nat}: ∀ {j k:Nat},k≤j→(rwL x l d s k).length≤(rwL x l d s j).length:=by
 intro j
 induction j with
 |zero=>
  intro k h;obtain rfl:k=0:=by omega
  exact nlr _
 |succ j ih=>
  intro k h
  by_cases e:k=j+1
  ·subst e;exact nlr _
  ·refine Nat.le_trans (ih (show k≤j by omega)) ?_
   conv=>rhs;unfold rwL
   rw[lap];omega
theorem qnD{x:Co}{l:List Un}{d:List Dc}{s k:Nat}(h:k≤l.length):(rwL x l d s k).length≤(rwA x l d s).length:=by
 refine Nat.le_trans (qAP h) ?_;unfold rwA;rw[lap];omega
theorem qvi{x:Co}{l:List Un}(ho:CoOk x)(hus:qd6 x l=true){k:Nat}(hk:k<l.length){o:Dc}(hE:qay x l o=0): ∀p∈qo2 x l k o,PcF p:=by
 obtain⟨a1,a2,a3,a4,_⟩:=qbT hus hk;obtain⟨p1,p2,p3,p4,p5,p6⟩:=qbb hE;intro p hp;unfold qo2 at hp;split at hp
 ·have:=(qh3 p4).2.1
  exact qaJ ho this om p hp
 ·split at hp
  ·rename_i g;obtain⟨r1,r2,r3,r4⟩:=qlq p6 g;exact qsO r2 p hp
  ·cases hp
theorem qvj{x:Co}{l:List Un}{d:List Dc}{s:Nat}(ho:CoOk x)(hus:qd6 x l=true)(hs:s<x.sig.length)(hpl: ∀i,i<d.length→qay x l (d.getD i default)=0){k:Nat}(hk:k<l.length): ∀r∈rwU x l d s k,PcF r.p:=by
 obtain⟨a1,a2,a3,a4,_⟩:=qbT hus hk;intro r hr;unfold rwU at hr;split at hr
 ·exact qaJ ho hs om _ (jS.1 hr).1
 ·rename_i g
  have:=qbz x l d k d.length
  exact qvi ho hus hk (hpl _ om) _ (jS.1 hr).1
theorem qgC{x:Co}{l:List Un}{d:List Dc}{s:Nat}(ho:CoOk x)(hus:qd6 x l=true)(hs:s<x.sig.length)(hpl: ∀i,i<d.length→qay x l (d.getD i default)=0): ∀ {k:Nat},k≤l.length→ ∀r∈rwL x l d s k,PcF r.p:=by
 intro k
 induction k with
 |zero=>intro _ r hr;cases hr
 |succ k ih=>
  intro hk r hr;obtain⟨a1,a2,a3,a4,_⟩:=qbT hus (show k<l.length by omega);have a5:=qni hus (show k<l.length by omega);unfold rwL at hr;rcases List.mem_append.1 hr with hr|hr
  ·exact ih om r hr
  ·rcases List.mem_append.1 hr with hr|hr
   ·exact qaJ ho hs om _ (jS.1 hr).1
   ·exact qvj ho hus hs hpl om r hr
theorem qFD{hh:List AObj}{j k v w:Nat}(n:Nat)(a:Int)(cs:List AV)(hj:qr j hh=some (.mem v 3 (.int .i64 a::cs)))(hk:qr k hh=some (.emp w))(h0:0<n)(hl:n≤1000000000):
  ACalls Tryz.prog 78 [.osl j v 1 0 1,.int .i64 (n:Int)] hh (.osl k (w+1) 1 0 n) (qn k (qn j hh (.emp (v+1))) (.mem (w+1) 3 (qU (List.replicate n a)))):=by
 have hne:j≠k:=fun e=>by subst e;rw[hj]at hk;cases hk
 have hs:qJ hh j=true:=by unfold qJ;rw[hj]
 have e1:qbx [j] hh=qn j hh (.emp (v+1)):=by show qn j hh (.emp (qo (qr j hh)+1))=_;rw[hj];rfl
 have hk1:qr k (qn j hh (.emp (v+1)))=some (.emp w):=by rw[qS (fun e=>hne e.symm)];exact hk
 refine ACalls.frzd [j] (by show (qJ hh j&&true)=true;rw[hs];rfl) ?_;rw[e1];have h1:=qFE a n (qn j hh (.emp (v+1))) k (by unfold qJ;rw[hk1]) h0 hl;rw[hk1]at h1;refine h1.le ⟨?_,qi,trivial⟩ (qi);have hc:=qP hj;have e: [j].contains j=true:=by simp
 simp only[go_sem,e,if_true,hc];rw[hj,slOf_mem,ipo ⟨rfl,by simp⟩];refine VLe.sl_eq rfl (fun i hi=> ?_);obtain rfl:i=0:=by omega
 rfl
theorem qE5(x:Co)(l:List Un)(d:List Dc)(s:Int)(h:List AObj)(hz:qdE x)(hu:qik l)(hp:kQ SG h)(hg:zK h frmN frmC)(hl0:l≠ [])(hd:d.length≤1000000)(ht: ∀o∈d,o.txt.length≤1000)(hN0:vaE x l=0→(rwA x l d s.toNat).length≤1000000000):
  ACalls Tryz.prog 25 [.agg (coC x),zS l,kl d,.int .i64 s] h (.tup [kX (esR x l d s),.int .i64 (esE x l d s)]) h:=by
 have c1:=fun l'=>qpI x l (h++l') hz hu (hp.app l')
 have zu: ∀g l,valL g .len [zS l]= .int .i64 l.length:=fun _ _=>rfl
 have zv: ∀g l,okL g .len [zS l]=True:=fun _ _=>eqt trivial
 have zu1: ∀g l,valL g .len [strs l]= .int .i64 l.length:=fun _ _=>rfl
 have zv1: ∀g l,okL g .len [strs l]=True:=fun _ _=>eqt trivial
 have hE:esE x l d s=(if vaE x l≠0 then vaE x l else if s<0∨(x.sig.length:Int)≤s then 2 else if qbH x l d≠0 then qbH x l d else if 1024<(rwA x l d s.toNat).length then 4 else 0):=rfl;unfold esR
 by_cases g:vaE x l=0
 case neg=>
  have k1:(vaE x l=0)=False:=eqf g;rw[ipo g]at hE;rw[hE,ine g];unfold coC at c1;refine acO qa8 ?_;simp (disch:=omega) only[qgb,coC,go_sem]
  repeat' first
   |(refine cA (c1 _) flk ?_;simp (disch:=omega) only[k1,go_sem])
   |(apply qb;exact rvk;simp only[go_sem])
  exact VLe.tup ⟨zf,qi,trivial⟩
 rw[ine (by simpa using g)]at hE;have hN:=hN0 g;simp only[g]at c1;obtain⟨hca,hus,hcv⟩:=qf5 g;have ho:=qci hca
 by_cases g2:s<0
 ·have k2:(s<0)=True:=eqt g2;rw[ipo (.inl g2)]at hE;rw[hE,ine (by decide)];unfold coC at c1;refine acO qa8 ?_;simp (disch:=omega) only[qgb,coC,go_sem]
  repeat' first
   |(refine cA (c1 _) flk ?_;simp (disch:=omega) only[k2,go_sem])
   |(apply qb;exact rvk;simp only[go_sem])
  exact VLe.tup ⟨zf,qi,trivial⟩
 have k2:(s<0)=False:=eqf g2
 by_cases g3:(x.sig.length:Int)≤s
 ·have k3:((x.sig.length:Int)≤s)=True:=eqt g3;rw[ipo (.inr g3)]at hE;rw[hE,ine (by decide)];unfold coC at c1;refine acO qa8 ?_;simp (disch:=omega) only[qgb,coC,go_sem]
  repeat' first
   |(refine cA (c1 _) flk ?_;simp (disch:=omega) only[k2,k3,zu1,zv1,go_sem])
   |(apply qb;exact rvk;simp only[go_sem])
  exact VLe.tup ⟨zf,qi,trivial⟩
 have k3:((x.sig.length:Int)≤s)=False:=eqf g3;rw[ine (fun e=>e.elim g2 g3)]at hE;have c2:=fun l'=>qDw x l d (h++l') hz hu (hp.app l') hg.app hca hd ht
 unfold qAx at c2
 by_cases g4:qbH x l d=0
 case neg=>
  have k4:(qbH x l d=0)=False:=eqf g4;simp only[ine g4]at c2;rw[ipo g4]at hE;rw[hE,ine g4];unfold coC at c1 c2;refine acO qa8 ?_;simp (disch:=omega) only[qgb,coC,go_sem]
  repeat' first
   |((first|refine cA (c1 _) ?_ ?_|refine cA (c2 _) ?_ ?_);exact flk;simp (disch:=omega) only[k2,k3,k4,zu1,zv1,go_sem])
   |(apply qb;exact rvk;simp only[go_sem])
   |with_reducible apply aiA
  all_goals try exact clz
  exact VLe.tup ⟨zf,qi,trivial⟩
 rw[ine (by simpa using g4)]at hE;simp only[g4,if_true]at c2;rw[hE];unfold coC at c1 c2;refine acO qa8 ?_;simp (disch:=omega) only[qgb,coC,go_sem]
 repeat' first
  |((first|refine cA (c1 _) ?_ ?_|refine cA (c2 _) ?_ ?_);exact flk;simp (disch:=omega) only[k2,k3,zu1,zv1,zu,zv,go_sem])
  |with_reducible apply aiA
 all_goals try exact clz
 have hlp:0<l.length:=List.length_pos_iff.2 hl0;refine qx (qFD (j:=h.length+2) (k:=h.length+13) (w:=0) l.length (-1) (List.drop 1 (qY [.int .i64 0] 1)) ?j1 ?j2 hlp hu.n) (by exact flk) ?_
 case j1=>simp only[go_sem]
 case j2=>simp only[go_sem]
 have zi: ∀g l,valL g .len [qI l]= .int .i64 l.length:=fun _ _=>rfl
 have zj: ∀g l,okL g .len [qI l]=True:=fun _ _=>eqt trivial
 have ePL:(plG x l d d.length).length=d.length:=by unfold plG;rw[List.length_map,List.take_length]
 simp (disch:=omega) only[zi,zj,ePL,go_sem];rw[←qAi x l d];have hpl: ∀i,i<d.length→qay x l (d.getD i default)=0:=by
  have:=g4
  unfold qbH at this;split at this
  ·cases this
  ·intro i hi;exact jD.1 this i hi
 refine qu (T:=fun i:Nat=>ze 154 [(1,zS l),(2,kl d),(3,.int .i64 s),(4,.op h.length 1 0),(13,.osl (h.length+13) 1 1 0 l.length),(55,.sl d.length fun i=> [.int .i64 ((plG x l d d.length).getD i 0)]),(56,.int .i64 d.length),(57,.int .i64 i)])
  (H:=fun i=>h++ [.mem 1 26 [.str x.sec,strs x.sig,qm x.tok,qw x.col],.emp 1,.emp 2,.emp 0,.emp 0,.emp 0,.emp 0,.emp 0,.emp 0,.emp 0,.emp 0,.emp 0,.emp 0,.mem 1 3 (qU (qbA x l d i)),.emp 0,.emp 0])
  (inv:=fun i=>i≤d.length) (m:=fun i=>d.length-i) 0 (nzl _) (Wk.temps ?_) ?_
 ·(simp only[go_sem,qg,qc,qa,qf];try (repeat' first|(with_reducible apply aiA)|(apply qh;omega)|(apply qe;rfl)|exact qi))
  have eI:qI (plG x l d d.length)= .sl d.length fun i=> [.int .i64 ((plG x l d d.length).getD i 0)]:=by unfold qI;rw[ePL]
  rw[eI];exact qi
 rintro i i1 K hK;have hll:=qhE x l d i;have hlc:=jZ (qbA x l d i)
 by_cases hi:i<d.length
 ·have q1:((i:Int)<d.length)=True:=eqt om;have q2:(0≤(i:Int))=True:=eqt om;have e0:=hpl i hi;obtain⟨_,_,_,_,p5,_⟩:=qbb e0;obtain⟨k,hk⟩: ∃k:Nat,km x l (d.getD i default)=k:=⟨(km x l (d.getD i default)).toNat,om⟩
  have hkl:k<l.length:=by
   have:=(ql7 l (kY x (zP x (d.getD i default).sig).toNat (d.getD i default).tok)).2
   have h2:fnU l (kY x (zP x (d.getD i default).sig).toNat (d.getD i default).tok)=k:=hk;omega
  have q3:((k:Int)<l.length)=True:=eqt om;have q4:(0≤(k:Int))=True:=eqt om;have eA:=qAu (x:=x) (l:=l) hi;rw[hk]at eA;have hst:=qmx (n:=i) hkl hk;simp (disch:=omega) only[q1,q2,q3,q4,eA,hlc,hll,go_sem]
  repeat' first
   |with_reducible apply aiA
  all_goals try exact clz
  have eB:List.take k (qU (qbA x l d i))++ [AV.int .i64 (i:Int)]++List.drop (k+1) (qU (qbA x l d i))=qU (qbA x l d (i+1)):=by
   rw[hst];unfold qU;rw[List.set_eq_take_append_cons_drop,ipo (by rw[hll];exact hkl)];simp[List.map_append,List.map_take,List.map_drop]
  rw[eB];refine hK _ _ (i+1) hi om (Wk.temps ?_)
  (simp only[go_sem,qg,qc,qa,qf];try (repeat' first|(with_reducible apply aiA)|(apply qh;omega)|(apply qe;rfl)|exact qi))
 ·have q1:((i:Int)<d.length)=False:=eqf om;obtain rfl:i=d.length:=by omega
  simp (disch:=omega) only[q1,go_sem];refine⟨_,_,Wk.ownNil (j:=h.length+3) (i:=0) (k:=h.length+15) (v:=1) (ty:=29) (cs:= [.nl]) (ve:=0) (sz:=7) ?m1 rfl ?m2,?_⟩
  case m1=>simp only[go_sem]
  case m2=>simp only[go_sem]
  have s1:=fun h=>qn5 h l
  have eP:=qcV l;simp (disch:=omega) only[List.set_cons_zero,go_sem];have hun:=hu.n;have bne5:(h.length+14 !=h.length+5)=true:=by simp
  have zc: ∀g l,valL g .len [qw l]= .int .i64 l.length:=fun _ _=>rfl
  have zd: ∀g l,okL g .len [qw l]=True:=fun _ _=>eqt trivial
  refine jB ?T ?H ?h1 ?h2
  case h1=>
   simp (disch:=omega) only[List.set_cons_zero,zc,zd,go_sem]
   repeat' first
    |(with_reducible apply aiA)
    |(refine qx (qE2 l _ (h.length+14) (by simp only[go_sem]) hl0 hu.n) (by exact flk) ?_;simp (disch:=omega) only[List.set_cons_zero,eP,zc,zd,go_sem])
   all_goals first
    |omega
    |rfl
    |exact bne5
  case h2=>
  simp (disch:=omega) only[go_sem];obtain⟨S,hS⟩: ∃S:Nat,s=S:=⟨s.toNat,om⟩
  subst hS;rw[itn]at hN ⊢;have hSl:S<x.sig.length:=by omega
  have eTk:List.take (l.length*3) (qaZ l)=qaZ l:=ltl om;rw[eTk];obtain⟨MC,hMC⟩: ∃MC,MC=qaZ l++ [AV.int .i64 x.col.length,.int .i64 x.col.length,.nl]:=⟨_,rfl⟩
  have hMl:MC.length=(l.length+1)*3:=by rw[hMC];simp[eP];omega
  have eM1: ∀k,k<l.length→List.take 3 (List.drop (k*3) MC)=unC (l.getD k default):=fun k hk=>by
   rw[hMC,List.drop_append_of_le_length om,List.take_append_of_le_length (by rw[List.length_drop];omega)];exact qia hk
  have eM2:List.take 3 (List.drop (l.length*3) MC)= [AV.int .i64 x.col.length,.int .i64 x.col.length,.nl]:=by
   rw[hMC,List.drop_append,List.drop_eq_nil_of_le om,lna,eP,Nat.sub_self];rfl
  rw[←hMC];obtain⟨O5,hO5⟩: ∃O5,O5=AObj.mem 1 64 (AV.int .i64 x.col.length:: .int .i64 x.col.length:: .nl::List.drop 3 (qY [.int .i64 0,.int .i64 0,.nl] 1)):=⟨_,rfl⟩
  rw[←hO5];obtain⟨LST,hLST⟩: ∃L,L=AObj.mem 1 3 (qU (qbA x l d d.length)):=⟨_,rfl⟩
  have hll:=qhE x l d d.length;have hlc:=jZ (qbA x l d d.length);obtain⟨X0,hX0⟩: ∃X0,X0=AObj.mem 1 26 [.str x.sec,strs x.sig,qm x.tok,qw x.col]:=⟨_,rfl⟩
  have lX0: ∀n,lowO n X0:=by
   intro n;rw[hX0];intro c hc;simp at hc;rcases hc with rfl|rfl|rfl|rfl<;>rfl
  refine qu (T:=fun i:EsS=>ze 154 [(1,zS l),(2,kl d),(3,.int .i64 (S:Int)),(4,.op h.length 1 0),(13,.osl (h.length+13) 1 1 0 l.length),(16,.op (h.length+3) 1 0),(17,.op (h.length+4) 1 0),(18,.int .i64 (nxT x l i.k:Int)),(78,.osl (h.length+14) 2 3 0 (l.length+1)),(79,.int .i64 ((l.length+1:Nat):Int)),(80,.int .i64 i.k)])
   (H:=fun i=>h++ [.mem 1 26 [.str x.sec,strs x.sig,qm x.tok,qw x.col],.emp 1,.emp 2,.mem 1 29 [.osl (h.length+15) i.vb 7 0 (rwK x l d S i.k).length],.mem 1 117 [.fn (.func 79) [] [.op (h.length+3) 1 0]],O5,.emp 0,i.O7,i.O8,i.O9,i.O10,i.O11,i.O12,.mem 1 3 (qU (qbA x l d d.length)),.mem 2 64 MC,zk i.vb 36 (jl (bsW (rwK x l d S i.k)))])
   (inv:=fun i=>i.k≤l.length+1∧ ∀O∈ [i.O7,i.O8,i.O9,i.O10,i.O11,i.O12],qJ [O] 0=true∧ ∀n,lowO n O) (m:=fun i=>l.length+1-i.k) ⟨0,0,.emp 0,.emp 0,.emp 0,.emp 0,.emp 0,.emp 0⟩ ⟨nzl _,fun O hO=>by
    simp at hO;subst hO;exact⟨rfl,fun _=>trivial⟩⟩ (Wk.temps ?_) ?_
  ·(simp only[go_sem,qg,qc,qa,qf];try (repeat' first|(with_reducible apply aiA)|(apply qh;omega)|(apply qe;rfl)|exact qi))
   done
  rintro⟨k,vb,O7,O8,O9,O10,O11,O12⟩ ⟨i1,i2⟩ K hK;simp only at i1 i2 hK;obtain⟨s7,l7⟩:=i2 O7 (by simp);obtain⟨s8,l8⟩:=i2 O8 (by simp);obtain⟨s9,l9⟩:=i2 O9 (by simp);obtain⟨s10,l10⟩:=i2 O10 (by simp);obtain⟨s11,l11⟩:=i2 O11 (by simp);obtain⟨s12,l12⟩:=i2 O12 (by simp);have s7': ∀m,qJ (O7::m) 0=true:=fun _=>s7
  have s8': ∀m,qJ (O8::m) 0=true:=fun _=>s8
  by_cases hk:k≤l.length
  case neg=>
   have q1:((k:Int)<((l.length+1:Nat):Int))=False:=eqf om;have eR:rwK x l d S k=rwA x l d S:=by unfold rwK;rw[ine hk]
   rw[eR]
   by_cases g5:1024<(rwA x l d S).length
   ·have q5:((1024:Int)<(rwA x l d S).length)=True:=eqt om;simp only[ipo g5];simp (disch:=omega) only[q1,q5,go_sem]
    repeat' first
     |(apply qb;exact rvk;simp only[go_sem])
     |with_reducible apply aiA
    all_goals try exact clz
    exact VLe.tup ⟨zf,qi,trivial⟩
   ·have q5:((1024:Int)<(rwA x l d S).length)=False:=eqf om;simp only[ine g5];simp (disch:=omega) only[q1,q5,go_sem]
    repeat' first
     |(apply qb;exact rvk;simp only[go_sem])
     |with_reducible apply aiA
    all_goals try exact clz
    exact VLe.tup ⟨qcU (j9 _).symm,qi,trivial⟩
  have q1:((k:Int)<((l.length+1:Nat):Int))=True:=eqt om;have q2:(0≤(k:Int))=True:=eqt om;have q3:(k*3+3≤MC.length)=True:=eqt om;have eR:rwK x l d S k=rwL x l d S k:=by unfold rwK;rw[ipo hk]
  have eN:nxT x l k=jU l k:=by unfold nxT;rw[ipo hk]
  rw[eR,eN];obtain⟨f,t',RV,eM,a5,a6,lRV,hA,hB⟩: ∃(f t':Nat) (RV:AV),List.take 3 (List.drop (k*3) MC)= [.int .i64 (f:Int),.int .i64 (t':Int),RV]∧jU l k≤f∧f≤x.col.length∧(∀n,qV n RV=true)∧(k<l.length→f=frN l k∧t'=toN l k∧RV=jV (l.getD k default).rds)∧(k=l.length→f=x.col.length∧t'=x.col.length):=by
   by_cases hkl:k<l.length
   ·obtain⟨a1,a2,a3,a4,_⟩:=qbT hus hkl;have eM:=eM1 k hkl;unfold unC at eM;rw[a1,a2]at eM;exact⟨frN l k,toN l k,_,eM,qni hus hkl,om,fun _=>rfl,fun _=>⟨rfl,rfl,rfl⟩,fun e=>by omega⟩
   ·obtain rfl:k=l.length:=by omega
    exact⟨x.col.length,x.col.length,.nl,eM2,qgE hus (nlr _),nlr _,fun _=>rfl,fun e=>by omega,fun _=>⟨rfl,rfl⟩⟩
  have c3:=fun h=>qA3 x (jU l k) f S h
  have hit:=itS x S (jU l k) f hz ho hSl a6 a5;have hpF:=qaJ ho hSl (f:=jU l k) (d:=f-jU l k) om;obtain⟨ps,hps⟩: ∃ps,ps=spk x S (jU l k) (f-jU l k):=⟨_,rfl⟩
  have hxl:(spX x S (jU l k) (f-jU l k))=ps.map fun p=> [.agg (pcC p)]:=by unfold spX;rw[hps]
  rw[hxl]at hit;rw[←hps]at hpF;unfold coC at c3 hit;simp (disch:=omega) only[q1,q2,q3,eM,s7',s8',go_sem]
  repeat' first
   |(refine cA (c3 _) flk ?_;simp (disch:=omega) only[go_sem])
  obtain⟨L0,hL0⟩: ∃L0,L0=rwL x l d S k:=⟨_,rfl⟩
  have hLF: ∀r∈L0,PcF r.p:=by rw[hL0];exact qgC ho hus hSl hpl hk
  have hLn:(L0++rwM ps (-1) (-1)).length≤1000000000:=by
   refine Nat.le_trans ?_ hN
   by_cases hkl:k<l.length
   ·obtain⟨b1,_⟩:=hA hkl;refine Nat.le_trans ?_ (qnD (show k+1≤l.length by omega));rw[hL0,hps,b1]
    conv=>rhs;unfold rwL
    rw[lap,lap,lap];show _≤_+((rwM _ _ _).length+_);omega
   ·obtain⟨b1,_⟩:=hB om;have hke:k=l.length:=by omega
    rw[hL0,hps,b1,hke];exact nlr _
  rw[←hL0];obtain⟨P7,hP7⟩: ∃P7,P7=AObj.mem (qo (some O7)+1) 3 [.int .i64 (k:Int)]:=⟨_,rfl⟩
  obtain⟨P8,hP8⟩: ∃P8,P8=AObj.mem (qo (some O8)+1) 64 [.int .i64 (f:Int),.int .i64 (t':Int),RV]:=⟨_,rfl⟩
  have hP7l:qJ [P7] 0=true∧ ∀n,lowO n P7:=by
   rw[hP7];refine⟨rfl,fun n c hc=> ?_⟩;rw[List.mem_singleton]at hc;subst hc;rfl
  have hP8l:qJ [P8] 0=true∧ ∀n,lowO n P8:=by
   rw[hP8];refine⟨rfl,fun n c hc=> ?_⟩;simp only[List.mem_cons,List.not_mem_nil,or_false]at hc;rcases hc with rfl|rfl|rfl
   ·rfl
   ·rfl
   ·exact lRV n
  have cP7: ∀m,cellsOf (P7::m) 0 (qo (some O7)+1)=some [.int .i64 (k:Int)]:=fun m=>by rw[hP7];simp only[go_sem]
  rw[←hP7,←hP8];have lP: ∀L:List Rw,∀v n,lowO n (zk v 36 (jl (bsW L))):=fun L v n=>jt (qcW _ n)
  have hLow: ∀(L M:List Rw) (v w:Nat) O A,(∀n,lowO n A)→LowI (h++ [.mem 1 26 [.str x.sec,strs x.sig,qm x.tok,qw x.col],.emp 1,.emp 2,.mem 1 29 [.osl (h.length+15) w 7 0 M.length],.mem 1 117 [.fn (.func 79) [] [.op (h.length+3) 1 0]],O5,.emp 0,P7,P8,O,O10,O11,O12,.mem 1 3 (qU (qbA x l d d.length)),.mem 2 64 MC,zk w 36 (jl (bsW M))])
    (h++ [.mem 1 26 [.str x.sec,strs x.sig,qm x.tok,qw x.col],.emp 1,.emp 2,.mem 1 29 [.osl (h.length+15) v 7 0 L.length],.mem 1 117 [.fn (.func 79) [] [.op (h.length+3) 1 0]],O5,.emp 0,P7,P8,A,O10,O11,O12,.mem 1 3 (qU (qbA x l d d.length)),.mem 2 64 MC,zk v 36 (jl (bsW L))]):=fun L M v w O A lA=>by
   refine⟨by simp,fun o ho=> ?_⟩;rcases List.mem_append.1 ho with h1|h1
   ·exact .inl (List.mem_append_left _ h1)
   ·simp only[List.mem_cons,List.not_mem_nil,or_false]at h1;rcases h1 with rfl|rfl|rfl|rfl|rfl|rfl|rfl|rfl|rfl|rfl|rfl|rfl|rfl|rfl|rfl|rfl
    ·left;simp
    ·left;simp
    ·left;simp
    ·right;refine⟨fun c hc=> ?_,fun c hc=> ?_⟩<;>
     ·rw[List.mem_singleton]at hc;subst hc;simp[qV]
      try omega
    ·left;simp
    ·left;simp
    ·left;simp
    ·left;simp
    ·left;simp
    ·right;exact⟨lA _,lA _⟩
    ·left;simp
    ·left;simp
    ·left;simp
    ·left;simp
    ·left;simp
    ·right;exact⟨lP _ _ _,lP _ _ _⟩
  refine zy hit (fun a ha=> ?_)
   (S:=fun i hh=> ∃A,qJ [A] 0=true∧(∀n,lowO n A)∧hh=h++ [.mem 1 26 [.str x.sec,strs x.sig,qm x.tok,qw x.col],.emp 1,.emp 2,.mem 1 29 [.osl (h.length+15) (vb+i) 7 0 (L0++rwM (ps.take i) (-1) (-1)).length],.mem 1 117 [.fn (.func 79) [] [.op (h.length+3) 1 0]],O5,.emp 0,P7,P8,A,O10,O11,O12,.mem 1 3 (qU (qbA x l d d.length)),.mem 2 64 MC,zk (vb+i) 36 (jl (bsW (L0++rwM (ps.take i) (-1) (-1))))]) (E:=fun _ _=>False) ?_ ?_ ?_ ?_ ?_ ?_ ?_
  ·obtain⟨c,_,rfl⟩:=List.mem_map.1 ha;rfl
  ·rintro i hh ⟨A,_,lA,rfl⟩;exact hLow _ _ _ _ _ _ lA
  ·intro s hh hf;exact hf.elim
  ·exact⟨O9,s9,l9,by simp[rwM]⟩
  ·simp[qV,qV.lowVs]
   repeat' apply aiA
   all_goals first|rfl|omega|exact lRV _
  ·rintro i hh tl LI TS hi ⟨A,sA,lA,rfl⟩ hlen K1 K2 hK1 hN1 hR1 hX1;have hi':i<ps.length:=by rw[List.length_map]at hi;exact hi
   rw[List.getElem_map];have sA': ∀m,qJ (A::m) 0=true:=fun _=>sA
   have hS:L0++rwM (ps.take (i+1)) (-1) (-1)=(L0++rwM (ps.take i) (-1) (-1))++ [⟨ps.getD i default,-1,-1⟩]:=by
    unfold rwM;rw[List.take_add_one,zL hi',List.map_append,gdqA,zL hi',List.append_assoc];rfl
   have eG:ps[i]=ps.getD i default:=by rw[gdqA,zL hi'];rfl
   rw[eG];have hpm:ps.getD i default∈ps:=jr hi';obtain⟨p,hp'⟩: ∃p,p=ps.getD i default:=⟨_,rfl⟩
   rw[←hp']at hS hpm ⊢;obtain⟨M,hM⟩: ∃M,M=L0++rwM (ps.take i) (-1) (-1):=⟨_,rfl⟩
   have hMF: ∀r∈M,PcF r.p:=fun r hr=>by
    rw[hM]at hr;rcases List.mem_append.1 hr with hr|hr
    ·exact hLF r hr
    ·exact hpF _ (List.mem_of_mem_take (jS.1 hr).1)
   have hMn:M.length≤1000000000:=by
    rw[hM,lap,jJ,List.length_take];rw[lap,jJ]at hLn;omega
   rw[←hM]at hS ⊢;simp only[kJ,List.append_assoc,lca,lna];simp (disch:=omega) only[sA',pcC,tkC,go_sem];refine hK1 _ _ (h++ [.mem 1 26 [.str x.sec,strs x.sig,qm x.tok,qw x.col],.emp 1,.emp 2,.mem 1 29 [.osl (h.length+15) (vb+i) 7 0 M.length],.mem 1 117 [.fn (.func 79) [] [.op (h.length+3) 1 0]],O5,.emp 0,P7,P8,(.mem (qo (some A)+1) 115 (pcC p)),O10,O11,O12,.mem 1 3 (qU (qbA x l d d.length)),.mem 2 64 MC,zk (vb+i) 36 (jl (bsW M))]) ?_ ?_ ?_
   ·simp[pcC,tkC]
   ·simp
   ·simp only[List.append_assoc,lca,lna];simp (disch:=omega) only[pcC,tkC,go_sem]
    repeat' first
     |with_reducible apply aiA
    all_goals try exact clz
    refine kA (qwM (a:=h.length+3) (b:=h.length+15) (c:=h.length) (va:=1) (vb:=vb+i) (Z:= .mem 1 26 [.str x.sec,strs x.sig,qm x.tok,qw x.col]) ⟨by simp,by simp,by simp,om,om,om⟩ M p (-1) (-1) (by simp only[go_sem]) (by simp only[go_sem]) (by simp only[go_sem]) (by rw[←hX0];exact lX0) (hpF p hpm) hMn hMF) ?_;simp (disch:=omega) only[go_sem];refine hN1 _ _ (h++ [.mem 1 26 [.str x.sec,strs x.sig,qm x.tok,qw x.col],.emp 1,.emp 2,.mem 1 29 [.osl (h.length+15) (vb+(i+1)) 7 0 (M++ [(⟨p,-1,-1⟩:Rw)]).length],.mem 1 117 [.fn (.func 79) [] [.op (h.length+3) 1 0]],O5,.emp 0,P7,P8,(.mem (qo (some A)+1) 115 (pcC p)),O10,O11,O12,.mem 1 3 (qU (qbA x l d d.length)),.mem 2 64 MC,zk (vb+(i+1)) 36 (jl (bsW (M++ [(⟨p,-1,-1⟩:Rw)])))]) ?_ ?_ ⟨_,rfl,?_,by rw[hS]⟩
    ·simp[pcC,tkC,Nat.add_assoc]
    ·simp
    ·intro n c hc;simp[pcC,tkC]at hc;rcases hc with rfl|rfl|rfl|rfl|rfl|rfl|rfl<;>rfl
  ·rintro hh ⟨A,sA,lA,rfl⟩;rw[List.length_map,List.take_length];obtain⟨L1,hL1⟩: ∃L1,L1=L0++rwM ps (-1) (-1):=⟨_,rfl⟩
   rw[←hL1]
   by_cases hkl:k<l.length
   case neg=>
    have hke:k=l.length:=by omega
    obtain⟨b1,b2⟩:=hB hke;have q4:((k:Int)=l.length)=True:=eqt om;rw[hP7,hP8];simp (disch:=omega) only[q4,zu,zv,go_sem]
    repeat' first
     |with_reducible apply aiA
    all_goals try exact clz
    rw[←hP7,←hP8];have e1:rwK x l d S (k+1)=L1:=by
     unfold rwK;rw[ine om,hL1,hL0,hps,b1,hke];rfl
    have e2:nxT x l (k+1)=t':=by unfold nxT;rw[ine om,b2]
    refine hK _ _ ⟨k+1,vb+ps.length,P7,P8,A,O10,O11,O12⟩ ⟨by simp only;omega,fun O hO=> ?_⟩ (by simp only;omega) ?_
    ·simp only[List.mem_cons,List.not_mem_nil,or_false]at hO;rcases hO with rfl|rfl|rfl|rfl|rfl|rfl
     ·exact hP7l
     ·exact hP8l
     ·exact⟨sA,lA⟩
     ·exact⟨s10,l10⟩
     ·exact⟨s11,l11⟩
     ·exact⟨s12,l12⟩
    ·simp only[e1,e2];refine Wk.temps ?_
     (simp only[go_sem,qg,qc,qa,qf];try (repeat' first|(with_reducible apply aiA)|(apply qh;omega)|(apply qe;rfl)|exact qi))
   obtain⟨b1,b2,b3⟩:=hA hkl;have q4:((k:Int)=l.length)=False:=eqf om;have q5:((k:Int)<l.length)=True:=eqt om;have q6:(k<l.length)=True:=eqt hkl;have eLs:(qU (qbA x l d d.length))[k]? =some (.int .i64 (qba x l d k d.length)):=by
    unfold qU
    have:=quV (x:=x) (d:=d) (n:=d.length) hkl
    rw[List.getElem?_map,zL (by rw[hll];exact hkl)];rw[gdqA,zL (by rw[hll];exact hkl)]at this;rw[←this];rfl
   obtain⟨D,hD⟩: ∃D,D=qba x l d k d.length:=⟨_,rfl⟩
   rw[←hD]at eLs;rw[hP7,hP8]
   by_cases g6:D<0
   ·have q7:(D<0)=True:=eqt g6;have c4:=fun h=>qA3 x f t' S h
    unfold coC at c4;simp (disch:=omega) only[q2,q4,q5,q6,q7,hlc,hll,eLs,zu,zv,go_sem]
    repeat' first
     |(refine cA (c4 _) flk ?_;simp (disch:=omega) only[go_sem])
     |with_reducible apply aiA
    all_goals try exact clz
    rw[←hP7,←hP8];obtain⟨A0,hA0⟩: ∃A0,A0=A:=⟨_,rfl⟩
    rw[←hA0];obtain⟨vc,hvc⟩: ∃vc,vc=vb+ps.length:=⟨_,rfl⟩
    rw[←hvc];obtain⟨_,_,a3,a4,_⟩:=qbT hus hkl;have hit2:=itS x S f t' hz ho hSl om om;have hpF2:=qaJ ho hSl (f:=f) (d:=t'-f) om;obtain⟨qs,hqs⟩: ∃qs,qs=spk x S f (t'-f):=⟨_,rfl⟩
    have hxl2:(spX x S f (t'-f))=qs.map fun p=> [.agg (pcC p)]:=by unfold spX;rw[hqs]
    rw[hxl2]at hit2;rw[←hqs]at hpF2;unfold coC at hit2;have eR1:rwK x l d S (k+1)=L1++rwM qs (k:Int) (-1):=by
     unfold rwK;rw[ipo om];show rwL x l d S k++(rwC x S (jU l k) (frN l k)++rwU x l d S k)=_;unfold rwU;rw[ipo (by rw[←hD];exact g6),hL1,hL0,hps,hqs,b1,b2,List.append_assoc];rfl
    have hLF2: ∀r∈L1,PcF r.p:=fun r hr=>by
     rw[hL1]at hr;rcases List.mem_append.1 hr with hr|hr
     ·exact hLF r hr
     ·exact hpF _ (jS.1 hr).1
    have hLn2:(L1++rwM qs (k:Int) (-1)).length≤1000000000:=by
     rw[←eR1];unfold rwK;rw[ipo om];exact Nat.le_trans (qnD (show k+1≤l.length by omega)) hN
    have hLow2: ∀(L M:List Rw) (v w:Nat) O A,(∀n,lowO n A)→LowI (h++ [.mem 1 26 [.str x.sec,strs x.sig,qm x.tok,qw x.col],.emp 1,.emp 2,.mem 1 29 [.osl (h.length+15) w 7 0 M.length],.mem 1 117 [.fn (.func 79) [] [.op (h.length+3) 1 0]],O5,.emp 0,P7,P8,A0,O,O11,O12,.mem 1 3 (qU (qbA x l d d.length)),.mem 2 64 MC,zk w 36 (jl (bsW M))])
      (h++ [.mem 1 26 [.str x.sec,strs x.sig,qm x.tok,qw x.col],.emp 1,.emp 2,.mem 1 29 [.osl (h.length+15) v 7 0 L.length],.mem 1 117 [.fn (.func 79) [] [.op (h.length+3) 1 0]],O5,.emp 0,P7,P8,A0,A,O11,O12,.mem 1 3 (qU (qbA x l d d.length)),.mem 2 64 MC,zk v 36 (jl (bsW L))]):=fun L M v w O A lA=>by
     refine⟨by simp,fun o ho=> ?_⟩;rcases List.mem_append.1 ho with h1|h1
     ·exact .inl (List.mem_append_left _ h1)
     ·simp only[List.mem_cons,List.not_mem_nil,or_false]at h1;rcases h1 with rfl|rfl|rfl|rfl|rfl|rfl|rfl|rfl|rfl|rfl|rfl|rfl|rfl|rfl|rfl|rfl
      ·left;simp
      ·left;simp
      ·left;simp
      ·right;refine⟨fun c hc=> ?_,fun c hc=> ?_⟩<;>
       ·rw[List.mem_singleton]at hc;subst hc;simp[qV]
        try omega
      ·left;simp
      ·left;simp
      ·left;simp
      ·left;simp
      ·left;simp
      ·left;simp
      ·right;exact⟨lA _,lA _⟩
      ·left;simp
      ·left;simp
      ·left;simp
      ·left;simp
      ·right;exact⟨lP _ _ _,lP _ _ _⟩
    refine zy hit2 (fun a ha=> ?_)
     (S:=fun i hh=> ∃A,qJ [A] 0=true∧(∀n,lowO n A)∧hh=h++ [.mem 1 26 [.str x.sec,strs x.sig,qm x.tok,qw x.col],.emp 1,.emp 2,.mem 1 29 [.osl (h.length+15) (vc+i) 7 0 (L1++rwM (qs.take i) (k:Int) (-1)).length],.mem 1 117 [.fn (.func 79) [] [.op (h.length+3) 1 0]],O5,.emp 0,P7,P8,A0,A,O11,O12,.mem 1 3 (qU (qbA x l d d.length)),.mem 2 64 MC,zk (vc+i) 36 (jl (bsW (L1++rwM (qs.take i) (k:Int) (-1))))]) (E:=fun _ _=>False) ?_ ?_ ?_ ?_ ?_ ?_ ?_
    ·obtain⟨c,_,rfl⟩:=List.mem_map.1 ha;rfl
    ·rintro i hh ⟨A,_,lA,rfl⟩;exact hLow2 _ _ _ _ _ _ lA
    ·intro s hh hf;exact hf.elim
    ·exact⟨O10,s10,l10,by simp[rwM]⟩
    ·simp[qV,qV.lowVs]
     repeat' apply aiA
     all_goals first|rfl|omega|exact lRV _
    ·rintro i hh tl LI TS hi ⟨A,sA,lA,rfl⟩ hlen K1 K2 hK1 hN1 hR1 hX1;have hi':i<qs.length:=by rw[List.length_map]at hi;exact hi
     rw[List.getElem_map];have sA': ∀m,qJ (A::m) 0=true:=fun _=>sA
     have hS:L1++rwM (qs.take (i+1)) (k:Int) (-1)=(L1++rwM (qs.take i) (k:Int) (-1))++ [⟨qs.getD i default,(k:Int),-1⟩]:=by
      unfold rwM;rw[List.take_add_one,zL hi',List.map_append,gdqA,zL hi',List.append_assoc];rfl
     have eG:qs[i]=qs.getD i default:=by rw[gdqA,zL hi'];rfl
     rw[eG];have hpm:qs.getD i default∈qs:=jr hi';obtain⟨p,hp'⟩: ∃p,p=qs.getD i default:=⟨_,rfl⟩
     rw[←hp']at hS hpm ⊢;obtain⟨M,hM⟩: ∃M,M=L1++rwM (qs.take i) (k:Int) (-1):=⟨_,rfl⟩
     have hMF: ∀r∈M,PcF r.p:=fun r hr=>by
      rw[hM]at hr;rcases List.mem_append.1 hr with hr|hr
      ·exact hLF2 r hr
      ·exact hpF2 _ (List.mem_of_mem_take (jS.1 hr).1)
     have hMn:M.length≤1000000000:=by
      rw[hM,lap,jJ,List.length_take];rw[lap,jJ]at hLn2;omega
     rw[←hM]at hS ⊢;simp only[kJ,List.append_assoc,lca,lna];simp (disch:=omega) only[sA',pcC,tkC,go_sem];refine hK1 _ _ (h++ [.mem 1 26 [.str x.sec,strs x.sig,qm x.tok,qw x.col],.emp 1,.emp 2,.mem 1 29 [.osl (h.length+15) (vc+i) 7 0 M.length],.mem 1 117 [.fn (.func 79) [] [.op (h.length+3) 1 0]],O5,.emp 0,P7,P8,A0,(.mem (qo (some A)+1) 115 (pcC p)),O11,O12,.mem 1 3 (qU (qbA x l d d.length)),.mem 2 64 MC,zk (vc+i) 36 (jl (bsW M))]) ?_ ?_ ?_
     ·simp[pcC,tkC]
     ·simp
     ·simp only[List.append_assoc,lca,lna];simp (disch:=omega) only[pcC,tkC,cP7,go_sem]
      repeat' first
       |with_reducible apply aiA
      all_goals try exact clz
      refine kA (qwM (a:=h.length+3) (b:=h.length+15) (c:=h.length) (va:=1) (vb:=vc+i) (Z:= .mem 1 26 [.str x.sec,strs x.sig,qm x.tok,qw x.col]) ⟨by simp,by simp,by simp,om,om,om⟩ M p (k:Int) (-1) (by simp only[go_sem]) (by simp only[go_sem]) (by simp only[go_sem]) (by rw[←hX0];exact lX0) (hpF2 p hpm) hMn hMF) ?_;simp (disch:=omega) only[go_sem];refine hN1 _ _ (h++ [.mem 1 26 [.str x.sec,strs x.sig,qm x.tok,qw x.col],.emp 1,.emp 2,.mem 1 29 [.osl (h.length+15) (vc+(i+1)) 7 0 (M++ [(⟨p,(k:Int),-1⟩:Rw)]).length],.mem 1 117 [.fn (.func 79) [] [.op (h.length+3) 1 0]],O5,.emp 0,P7,P8,A0,(.mem (qo (some A)+1) 115 (pcC p)),O11,O12,.mem 1 3 (qU (qbA x l d d.length)),.mem 2 64 MC,zk (vc+(i+1)) 36 (jl (bsW (M++ [(⟨p,(k:Int),-1⟩:Rw)])))]) ?_ ?_ ⟨_,rfl,?_,by rw[hS]⟩
      ·simp[pcC,tkC,Nat.add_assoc]
      ·simp
      ·intro n c hc;simp[pcC,tkC]at hc;rcases hc with rfl|rfl|rfl|rfl|rfl|rfl|rfl<;>rfl
    ·rintro hh ⟨B,sB,lB,rfl⟩;rw[List.length_map,List.take_length];simp (disch:=omega) only[go_sem];have e2:nxT x l (k+1)=t':=by
      unfold nxT;rw[ipo om,b2];unfold jU;rw[ine om,Nat.add_sub_cancel]
     refine hK _ _ ⟨k+1,vc+qs.length,P7,P8,A0,B,O11,O12⟩ ⟨by simp only;omega,fun O hO=> ?_⟩ (by simp only;omega) ?_
     ·simp only[List.mem_cons,List.not_mem_nil,or_false]at hO;rcases hO with rfl|rfl|rfl|rfl|rfl|rfl
      ·exact hP7l
      ·exact hP8l
      ·rw[hA0];exact⟨sA,lA⟩
      ·exact⟨sB,lB⟩
      ·exact⟨s11,l11⟩
      ·exact⟨s12,l12⟩
     ·simp only[eR1,e2];refine Wk.temps ?_
      (simp only[go_sem,qg,qc,qa,qf];try (repeat' first|(with_reducible apply aiA)|(apply qh;omega)|(apply qe;rfl)|exact qi))
    ·intro e hh hf;exact hf.elim
   ·have q7:(D<0)=False:=eqf g6;obtain⟨j,hj⟩: ∃j:Nat,D=j:=⟨D.toNat,om⟩
    have hjd:j<d.length:=by
     have:=(qbz x l d k d.length).2
     omega
    rw[hj]at eLs hD q7;have q8:(0≤(j:Int))=True:=eqt om;have q9:((j:Int)<d.length)=True:=eqt om;have s11': ∀m,qJ (O11::m) 0=true:=fun _=>s11
    have e0:=hpl j hjd;have eU:km x l (d.getD j default)=k:=qmw (n:=d.length) hD.symm;obtain⟨o,ho'⟩: ∃o,o=d.getD j default:=⟨_,rfl⟩
    have eo:=ho'.symm;rw[eo]at e0 eU;have hot:o.txt.length≤1000:=ht o (by rw[ho'];exact jr hjd);obtain⟨p1,p2,p3,p4,p5,p6⟩:=qbb e0;have c5:=fun h=>qFq h
    have zp: ∀g l,valL g .len [qe4 l]= .int .i64 l.length:=fun _ _=>rfl
    have zq: ∀g l,okL g .len [qe4 l]=True:=fun _ _=>eqt trivial
    have k7:(0≤o.kind)=True:=eqt om;have k8:(o.kind<4)=True:=eqt om;obtain⟨_,_,a3,a4,_⟩:=qbT hus hkl;obtain⟨fid,qs,eIx,c6,eqs,hpF2⟩: ∃(fid:Nat) (qs:List Pc),[AV.nilfn,AV.fn (.func 131) [] [],AV.fn (.func 133) [] [],AV.fn (.func 135) [] []][Int.toNat o.kind]?.getD AV.undef= .fn (.func fid) [] []∧(∀l',ACalls Tryz.prog fid [.agg [.str x.sec,strs x.sig,qm x.tok,qw x.col],.agg [.int .i64 (f:Int),.int .i64 (t':Int),RV],.agg [.int .i64 o.kind,.str o.sig,.int .i64 o.tok,.str o.txt]] (h++l') (qe4 qs) (h++l'))∧qs=qo2 x l k o∧ ∀p∈qs,PcF p:=by
     obtain⟨a1,a2,_⟩:=qbT hus hkl;rcases (show o.kind=1∨o.kind=2∨o.kind=3 by omega)with g7|g7|g7
     ·obtain⟨S1,hS1⟩: ∃S1:Nat,zP x o.sig=S1:=⟨(zP x o.sig).toNat,by have:=(qh3 p4).1;omega⟩
      have hS1l:S1<x.sig.length:=by have:=(qh3 p4).2.1;omega
      refine⟨131,spk x S1 f (t'-f),by rw[g7];rfl,fun l'=> ?_,?_,qaJ ho hS1l om⟩
      ·have c6:=qFn x (l.getD k default) o S1 f t' (h++l') hz ho hS1 hS1l (by rw[a1,b1]) (by rw[a2,b2]) om om;unfold coC unC dcC at c6;rw[a1,a2,←b1,←b2,←b3]at c6;exact c6
      ·unfold qo2;rw[ipo g7,hS1,itn,b1,b2]
     ·obtain⟨r1,r2,r3,r4⟩:=qlq p6 g7;refine⟨133,cjP (qf2 o.txt) (f:Int),by rw[g7];rfl,fun l'=> ?_,?_,qsO r2⟩
      ·have c6:=qFo x (l.getD k default) o (h++l') hot r4 r1 r2 hg.app;unfold coC unC dcC at c6;rw[a1,a2,←b1,←b2,←b3]at c6;exact c6
      ·unfold qo2 cjP;rw[ine (by rw[g7];decide),ipo g7,a1,b1]
     ·refine⟨135,[],by rw[g7];rfl,fun l'=> ?_,?_,fun p hp=>by cases hp⟩
      ·have c6:=qFp x (l.getD k default) o (h++l');unfold coC unC dcC at c6;rw[a1,a2,←b1,←b2,←b3]at c6;exact c6
      ·unfold qo2;rw[ine (by rw[g7];decide),ine (by rw[g7];decide)]
    simp (disch:=omega) only[q2,q4,q5,q6,q7,q8,q9,hlc,hll,eLs,zu,zv,kl,dcC,eo,s11',go_sem]
    repeat' first
     |with_reducible apply aiA
    all_goals try exact clz
    refine jB ?Ta ?Ha ?h1 ?h2
    case h1=>
     simp (disch:=omega) only[go_sem]
     repeat' first
      |(refine cU (fun _=>c5 _) flk ?_;simp (disch:=omega) only[k7,go_sem])
      |with_reducible apply aiA
     all_goals first
      |omega
      |rfl
      |skip
     rw[eIx];refine qk6 (c6 _) (by exact flk) ?_;simp (disch:=omega) only[zp,zq,go_sem]
     repeat' first
      |with_reducible apply aiA
     all_goals first
      |omega
      |rfl
      |skip
    case h2=>
    rw[←hP7,←hP8];obtain⟨P11,hP11⟩: ∃P11,P11=AObj.mem (qo (some O11)+1) 43 [.int .i64 o.kind,.str o.sig,.int .i64 o.tok,.str o.txt]:=⟨_,rfl⟩
    rw[←hP11];have eR1:rwK x l d S (k+1)=L1++rwM qs (k:Int) (j:Int):=by
     unfold rwK;rw[ipo om];show rwL x l d S k++(rwC x S (jU l k) (frN l k)++rwU x l d S k)=_;unfold rwU;rw[←hD,ine om,itn,eo,hL1,hL0,hps,eqs,b1,List.append_assoc];rfl
    have hLF2: ∀r∈L1,PcF r.p:=fun r hr=>by
     rw[hL1]at hr;rcases List.mem_append.1 hr with hr|hr
     ·exact hLF r hr
     ·exact hpF _ (jS.1 hr).1
    have hLn2:(L1++rwM qs (k:Int) (j:Int)).length≤1000000000:=by
     rw[←eR1];unfold rwK;rw[ipo om];exact Nat.le_trans (qnD (show k+1≤l.length by omega)) hN
    simp (disch:=omega) only[go_sem];have hqn:qs.length≤1000000000:=by rw[lap,jJ]at hLn2;omega
    refine qu (T:=fun i:Nat×AObj=>ze 154 [(1,zS l),(2,kl d),(3,.int .i64 (S:Int)),(4,.op h.length 1 0),(13,.osl (h.length+13) 1 1 0 l.length),(16,.op (h.length+3) 1 0),(17,.op (h.length+4) 1 0),(18,.int .i64 (t':Int)),(19,.op (h.length+7) (qo (some O7)+1) 0),(78,.osl (h.length+14) 2 3 0 (l.length+1)),(79,.int .i64 ((l.length+1:Nat):Int)),(80,.int .i64 (k:Int)),(111,qe4 qs),(112,.int .i64 qs.length),(113,.int .i64 i.1)])
     (H:=fun i=>h++ [.mem 1 26 [.str x.sec,strs x.sig,qm x.tok,qw x.col],.emp 1,.emp 2,.mem 1 29 [.osl (h.length+15) (vb+ps.length+i.1) 7 0 (L1++rwM (qs.take i.1) (k:Int) (j:Int)).length],.mem 1 117 [.fn (.func 79) [] [.op (h.length+3) 1 0]],O5,.emp 0,P7,P8,A,O10,P11,i.2,.mem 1 3 (qU (qbA x l d d.length)),.mem 2 64 MC,zk (vb+ps.length+i.1) 36 (jl (bsW (L1++rwM (qs.take i.1) (k:Int) (j:Int))))])
     (inv:=fun i=>i.1≤qs.length∧qJ [i.2] 0=true∧ ∀n,lowO n i.2) (m:=fun i=>qs.length-i.1) (0,O12) ⟨nzl _,s12,l12⟩ ?_ ?_
    ·simp only[List.take_zero,rwM,List.map_nil,lan,Nat.add_zero];refine Wk.temps ?_
     (simp only[kl,dcC,go_sem,qg,qc,qa,qf];try (repeat' first|(with_reducible apply aiA)|(apply qh;omega)|(apply qe;rfl)|exact qi))
    rintro⟨i,B⟩ ⟨j1,j2,j3⟩ K3 hK3;simp only at j1 j2 j3 hK3;have j2': ∀m,qJ (B::m) 0=true:=fun _=>j2
    by_cases hi:i<qs.length
    ·have w1:((i:Int)<qs.length)=True:=eqt om;have w2:(0≤(i:Int))=True:=eqt om;have hS:L1++rwM (qs.take (i+1)) (k:Int) (j:Int)=(L1++rwM (qs.take i) (k:Int) (j:Int))++ [⟨qs.getD i default,(k:Int),(j:Int)⟩]:=by
      unfold rwM;rw[List.take_add_one,zL hi,List.map_append,gdqA,zL hi,List.append_assoc];rfl
     have hpm:qs.getD i default∈qs:=jr hi;obtain⟨p,hp'⟩: ∃p,p=qs.getD i default:=⟨_,rfl⟩
     have ep:=hp'.symm;rw[←hp']at hS hpm;obtain⟨M,hM⟩: ∃M,M=L1++rwM (qs.take i) (k:Int) (j:Int):=⟨_,rfl⟩
     have hMF: ∀r∈M,PcF r.p:=fun r hr=>by
      rw[hM]at hr;rcases List.mem_append.1 hr with hr|hr
      ·exact hLF2 r hr
      ·exact hpF2 _ (List.mem_of_mem_take (jS.1 hr).1)
     have hMn:M.length≤1000000000:=by
      rw[hM,lap,jJ,List.length_take];rw[lap,jJ]at hLn2;omega
     rw[←hM]at hS ⊢;simp (disch:=omega) only[qe4,pcC,tkC,w1,w2,ep,j2',cP7,q2,q5,q6,eLs,hlc,hll,go_sem]
     repeat' first
      |with_reducible apply aiA
     all_goals try exact clz
     refine kA (qwM (a:=h.length+3) (b:=h.length+15) (c:=h.length) (va:=1) (vb:=vb+ps.length+i) (Z:= .mem 1 26 [.str x.sec,strs x.sig,qm x.tok,qw x.col]) ⟨by simp,by simp,by simp,om,om,om⟩ M p (k:Int) (j:Int) (by simp only[go_sem]) (by simp only[go_sem]) (by simp only[go_sem]) (by rw[←hX0];exact lX0) (hpF2 p hpm) hMn hMF) ?_;simp (disch:=omega) only[go_sem];refine hK3 _ _ (i+1,.mem (qo (some B)+1) 115 (pcC p)) ⟨hi,rfl,fun n c hc=> ?_⟩ (by simp only;omega) ?_
     ·simp[pcC,tkC]at hc;rcases hc with rfl|rfl|rfl|rfl|rfl|rfl|rfl<;>rfl
     ·simp only[hS,pcC,tkC,lap,lco,lnl,lca,lna,Nat.zero_add];refine Wk.temps ?_
      (simp only[kl,dcC,go_sem,qg,qc,qa,qf];try (repeat' first|(with_reducible apply aiA)|(apply qh;omega)|(apply qe;rfl)|exact qi))
    ·have w1:((i:Int)<qs.length)=False:=eqf om;obtain rfl:i=qs.length:=by omega
     rw[List.take_length];simp (disch:=omega) only[w1,go_sem];have e2:nxT x l (k+1)=t':=by
      unfold nxT;rw[ipo om,b2];unfold jU;rw[ine om,Nat.add_sub_cancel]
     refine hK _ _ ⟨k+1,vb+ps.length+qs.length,P7,P8,A,O10,P11,B⟩ ⟨by simp only;omega,fun O hO=> ?_⟩ (by simp only;omega) ?_
     ·simp only[List.mem_cons,List.not_mem_nil,or_false]at hO;rcases hO with rfl|rfl|rfl|rfl|rfl|rfl
      ·exact hP7l
      ·exact hP8l
      ·exact⟨sA,lA⟩
      ·exact⟨s10,l10⟩
      ·rw[hP11];refine⟨rfl,fun n c hc=> ?_⟩;simp at hc;rcases hc with rfl|rfl|rfl|rfl<;>rfl
      ·exact⟨j2,j3⟩
     ·simp only[eR1,e2];refine Wk.temps ?_
      (simp only[go_sem,qg,qc,qa,qf];try (repeat' first|(with_reducible apply aiA)|(apply qh;omega)|(apply qe;rfl)|exact qi))
  ·intro e hh hf;exact hf.elim
def rwZ(x:Co)(l:List Un)(d:List Dc)(s k:Nat):Nat→List Rw
 |0=> []
 |n+1=>rwZ x l d s k n++(rwC x s (jU l (k+n)) (frN l (k+n))++rwU x l d s (k+n))
theorem qvL(x:Co)(l:List Un)(d:List Dc)(s k:Nat): ∀n,rwL x l d s (k+n)=rwL x l d s k++rwZ x l d s k n:=by
 intro n
 induction n with
 |zero=>rw[Nat.add_zero];unfold rwZ;rw[lan]
 |succ n ih=>
  show rwL x l d s (k+n)++(rwC x s (jU l (k+n)) (frN l (k+n))++rwU x l d s (k+n))=rwL x l d s k++(rwZ x l d s k n++(rwC x s (jU l (k+n)) (frN l (k+n))++rwU x l d s (k+n)));rw[ih,List.append_assoc]
def rwF(x:Co)(l:List Un)(d:List Dc)(s k:Nat):List Rw:=rwL x l d s k++rwC x s (jU l k) (frN l k)
def rwE(x:Co)(l:List Un)(d:List Dc)(s k:Nat):List Rw:=rwZ x l d s (k+1) (l.length-(k+1))++rwC x s (jU l l.length) x.col.length
theorem qfS(x:Co)(l:List Un)(d:List Dc)(s:Nat){k:Nat}(hk:k<l.length):rwA x l d s=rwF x l d s k++(rwU x l d s k++rwE x l d s k):=by
 unfold rwA;have e:l.length=(k+1)+(l.length-(k+1)):=by omega
 have e1:=qvL x l d s (k+1) (l.length-(k+1));rw[←e]at e1;rw[e1];show (rwL x l d s k++(rwC x s (jU l k) (frN l k)++rwU x l d s k))++_++_=_;unfold rwF rwE;simp only[List.append_assoc]
theorem qDE{x:Co}{l:List Un}{d:List Dc}{s:Nat}(h:qd8 x l d s){k:Nat}: ∀n,k+n≤l.length→ ∀r∈rwZ x l d s k n,r.u<0∨(k:Int)≤r.u:=by
 intro n
 induction n with
 |zero=>intro _ r hr;cases hr
 |succ n ih=>
  intro hn r hr;rcases List.mem_append.1 (show r∈rwZ x l d s k n++_ from hr)with hr|hr
  ·exact ih om r hr
  ·rcases List.mem_append.1 hr with hr|hr
   ·have:=(qsU h (show frN l (k+n)≤x.col.length by have:=qbT h.us (show k+n<l.length by omega);omega) hr).1
    omega
   ·have:=(qnJ h (show k+n<l.length by omega) hr).u
    omega
theorem qDD{x:Co}{l:List Un}{d:List Dc}{s:Nat}(h:qd8 x l d s){k:Nat}(hk:k<l.length){r:Rw}(hr:r∈rwE x l d s k):r.u<0∨(k:Int)<r.u:=by
 rcases List.mem_append.1 (show r∈rwZ x l d s (k+1) (l.length-(k+1))++_ from hr)with hr|hr
 ·have:=qDE h (l.length-(k+1)) om r hr
  omega
 ·have:=(qsU h (nlr _) hr).1
  omega
theorem qnH{x:Co}{l:List Un}{d e:List Dc}{s:Nat}: ∀k,(∀j,j<k→rwU x l d s j=rwU x l e s j)→rwL x l d s k=rwL x l e s k:=by
 intro k
 induction k with
 |zero=>intro _;rfl
 |succ k ih=>
  intro h;show rwL x l d s k++(_++rwU x l d s k)=rwL x l e s k++(_++rwU x l e s k);rw[ih (fun j hj=>h j om),h k om]
theorem qnK{x:Co}{l:List Un}{d e:List Dc}{s k:Nat}: ∀n,(∀j,k≤j→j<k+n→rwU x l d s j=rwU x l e s j)→rwZ x l d s k n=rwZ x l e s k n:=by
 intro n
 induction n with
 |zero=>intro _;rfl
 |succ n ih=>
  intro h;show rwZ x l d s k n++(_++rwU x l d s (k+n))=rwZ x l e s k n++(_++rwU x l e s (k+n));rw[ih (fun j h1 h2=>h j h1 om),h (k+n) om om]
theorem qnG{x:Co}{l:List Un}{d e:List Dc}{s k:Nat}(h: ∀j,j<l.length→j≠k→rwU x l d s j=rwU x l e s j)(hk:k<l.length):rwF x l d s k=rwF x l e s k:=by
 unfold rwF;rw[qnH k (fun j hj=>h j om om)]
theorem qnF{x:Co}{l:List Un}{d e:List Dc}{s k:Nat}(h: ∀j,j<l.length→j≠k→rwU x l d s j=rwU x l e s j)(hk:k<l.length):rwE x l d s k=rwE x l e s k:=by
 unfold rwE;rw[qnK _ (fun j h1 h2=>h j om om)]
theorem qqC{x:Co}{l:List Un}{d e:List Dc}{k:Nat}: ∀n,n≤d.length→qba x l (d++e) k n=qba x l d k n:=by
 intro n
 induction n with
 |zero=>intro _;rfl
 |succ n ih=>
  intro hn;unfold qba;rw[jE om,ih om]
theorem qvM{x:Co}{l:List Un}{d:List Dc}{o:Dc}{s k:Nat}(h:km x l o≠k):rwU x l (d++ [o]) s k=rwU x l d s k:=by
 have e:qba x l (d++ [o]) k (d++ [o]).length=qba x l d k d.length:=by
  rw[lap,List.length_singleton];show (if km x l ((d++ [o]).getD d.length default)=k then (d.length:Int) else qba x l (d++ [o]) k d.length)=_;have e1:(d++ [o]).getD d.length default=o:=by
   have:=jQ (L:=d) (M:= [o]) (a:=default) (i:=0)
   rw[Nat.add_zero]at this;rw[this];rfl
  rw[e1,ine h,qqC _ (nlr _)]
 unfold rwU;rw[e];split
 ·rfl
 ·rename_i g
  have:=qbz x l d k d.length
  rw[jE om]
def qe3(w:Wd):Wd:=⟨w.text,w.col,w.unit,w.dec,false,w.verse,w.name⟩
def woG(u:Int)(b:List Wd):Nat→List Wd
 |0=> []
 |i+1=>woG u b i++if (b.getD i default).unit=u then [] else [if i=0∨u<(b.getD i default).unit∨(b.getD i default).unit<0 then qe3 (b.getD i default) else b.getD i default]
theorem qcX(u:Int)(b:List Wd)(i:Nat):woG u b (i+1)=woG u b i++if (b.getD i default).unit=u then [] else [if i=0∨u<(b.getD i default).unit∨(b.getD i default).unit<0 then qe3 (b.getD i default) else b.getD i default]:=rfl
theorem qq5{L M:List Rw}{i:Nat}(hi:i<L.length):qhK (L++M) i=qhK L i:=by
 unfold qhK;split
 ·rfl
 ·rw[jE om]
theorem qtm{L M:List Rw}{i:Nat}(hi:i<L.length):(bsW (L++M)).getD i default=(bsW L).getD i default:=by
 rw[qfg (by rw[lap];omega),qfg hi,qq5 hi,jE hi]
theorem qwr{u:Int}{L M:List Rw}: ∀n,n≤L.length→woG u (bsW (L++M)) n=woG u (bsW L) n:=by
 intro n
 induction n with
 |zero=>intro _;rfl
 |succ n ih=>
  intro hn;unfold woG;rw[ih om,qtm om]
theorem qBS{u:Int}{L M N:List Rw}(h: ∀r∈M,r.u=u): ∀n,n≤M.length→woG u (bsW (L++(M++N))) (L.length+n)=woG u (bsW (L++(M++N))) L.length:=by
 intro n
 induction n with
 |zero=>intro _;rfl
 |succ n ih=>
  intro hn;rw[←Nat.add_assoc,qcX,ih om,qfg (by rw[lap,lap];omega),jQ,jE om];have hm:M.getD n default∈M:=by
   rw[gdqA,zL hn];exact List.getElem_mem hn
  have hu:(mkW (qhK (L++(M++N)) (L.length+n)) (M.getD n default)).unit=u:=h _ hm;rw[ipo hu,lan]
theorem qws{u:Int}{L N:List Rw}(h: ∀r∈N,r.u≠u∧(r.u<0∨u<r.u)): ∀n,n≤N.length→woG u (bsW (L++N)) (L.length+n)=woG u (bsW (L++N)) L.length++(N.take n).map (mkW none):=by
 intro n
 induction n with
 |zero=>intro _;simp
 |succ n ih=>
  intro hn;rw[←Nat.add_assoc,qcX,ih om,qfg (by rw[lap];omega),jQ];have e:N.getD n default=N[n]:=by rw[gdqA,zL hn];rfl
  rw[e];obtain⟨h1,h2⟩:=h N[n] (List.getElem_mem hn);have eu:(mkW (qhK (L++N) (L.length+n)) N[n]).unit=N[n].u:=rfl;rw[eu,ine h1,ipo om,List.take_add_one,zL hn,Option.toList_some,List.map_append,List.append_assoc];congr 2;unfold qe3 mkW;simp
theorem qEc{u:Int}{A U V B:List Rw}(hU: ∀r∈U,r.u=u)(hV: ∀r∈V,r.u=u)(hB: ∀r∈B,r.u≠u∧(r.u<0∨u<r.u)):
  woG u (bsW (A++(U++B))) (bsW (A++(U++B))).length=woG u (bsW (A++(V++B))) (bsW (A++(V++B))).length:=by
 have key: ∀M:List Rw,(∀r∈M,r.u=u)→woG u (bsW (A++(M++B))) (bsW (A++(M++B))).length=woG u (bsW A) A.length++B.map (mkW none):=by
  intro M hM;have e1:=qws (u:=u) (L:=A++M) (N:=B) hB B.length (nlr _);rw[List.take_length,List.append_assoc,lap]at e1;rw[j9,lap,lap,←Nat.add_assoc,e1,qBS hM _ (nlr _),qwr _ (nlr _)]
 rw[key U hU,key V hV]
theorem qmY{x:Co}{l:List Un}{d e:List Dc}{s k:Nat}(h:qd8 x l d s)(h':qd8 x l e s)(hk:k<l.length)(hc: ∀j,j<l.length→j≠k→rwU x l d s j=rwU x l e s j):
  woG k (bsW (rwA x l d s)) (bsW (rwA x l d s)).length=woG k (bsW (rwA x l e s)) (bsW (rwA x l e s)).length:=by
 rw[qfS x l d s hk,qfS x l e s hk,←qnG hc hk,←qnF hc hk];exact qEc (fun r hr=>(qnJ h hk hr).u) (fun r hr=>(qnJ h' hk hr).u) (fun r hr=>by have:=qDD h hk hr;omega)
def unF(x:Co)(r:Nat×Nat):Un:=⟨(r.1:Int),(r.2:Int),qe5 x r.1 r.2⟩
def rnL(x:Co):List (Nat×Nat):=qd3 (cmB x) x.col.length
def qjZ(x:Co):List Un:=(rnL x).map (unF x)
theorem qrq(p:Nat→Bool)(n:Nat): ∀d f,(kP p n d f).Pairwise fun a b=>a.2<b.1:=by
 intro d
 induction d with
 |zero=>intro f;exact List.Pairwise.nil
 |succ d ih=>
  intro f;unfold kP;split
  ·exact List.Pairwise.nil
  ·rw[List.pairwise_append];refine⟨?_,ih _,fun a ha b hb=> ?_⟩
   ·split
    ·exact List.pairwise_singleton _ _
    ·exact List.Pairwise.nil
   ·split at ha
    ·rw[List.mem_singleton]at ha;subst ha
     have:=((qeE p n d (nxt p (n-f) f+1)).1 b hb).1
     show nxt p (n-f) f<b.1;omega
    ·cases ha
theorem qib(x:Co):(qjZ x).length=(rnL x).length:=by unfold qjZ;rw[List.length_map]
theorem qg5{x:Co}{k:Nat}(hk:k<(rnL x).length):(qjZ x).getD k default=unF x (rnL x)[k]:=by
 unfold qjZ;rw[gdqA,List.getElem?_map,zL hk];rfl
theorem qsS{x:Co}{k:Nat}(hk:k<(rnL x).length):(rnL x)[k].1<(rnL x)[k].2∧(rnL x)[k].2≤x.col.length∧ ∀c,(rnL x)[k].1≤c→c<(rnL x)[k].2→cmB x c=false:=qnB (List.getElem_mem hk)
theorem qot(x:Co):qd6 x (qjZ x)=true:=by
 unfold qd6;rw[Bool.not_eq_true',qt];intro k hk;rw[qib]at hk;rw[Bool.not_eq_false'];obtain⟨h1,h2,_⟩:=qsS hk;refine qoq.2 ?_;rw[qg5 hk];have hb:beH (qjZ x) k<((rnL x)[k].1:Int):=by
  unfold beH;split
  ·omega
  ·rename_i h0;rw[qg5 (show k-1<(rnL x).length by omega)]
   have:=List.pairwise_iff_getElem.1 (qrq (cmB x) x.col.length (x.col.length+1) 0) (k-1) k (by show _<(rnL x).length;omega) hk om
   show ((rnL x)[k-1].2:Int)<_;have this:(rnL x)[k-1].2<(rnL x)[k].1:=this;omega
 refine⟨hb,?_,?_,?_,?_⟩
 ·show (0:Int)≤((rnL x)[k].1:Nat);omega
 ·show ((rnL x)[k].1:Int)<((rnL x)[k].2:Nat);omega
 ·show ((rnL x)[k].2:Int)≤_;omega
 ·show qe5 x (rnL x)[k].1 (rnL x)[k].2=qe5 x (((rnL x)[k].1:Nat):Int).toNat (((rnL x)[k].2:Nat):Int).toNat;rw[itn,itn]
theorem qqp{d:List Dc}{j:Nat}(ht: ∀o∈d,o.txt.length≤1000):(d.getD j default).txt.length≤1000:=by
 by_cases hj:j<d.length
 ·exact ht _ (jr hj)
 ·rw[gdqA,List.getElem?_eq_none om];exact nzl _
theorem qvN{x:Co}{l:List Un}{d:List Dc}{s k:Nat}(ht: ∀o∈d,o.txt.length≤1000):(rwU x l d s k).length≤(toN l k-frN l k)+1000:=by
 unfold rwU;split
 ·rw[jJ]
  have:=qeN x s (frN l k) (toN l k-frN l k)
  omega
 ·rw[jJ];unfold qo2;split
  ·have:=qeN x (zP x (d.getD (qba x l d k d.length).toNat default).sig).toNat (frN l k) (toN l k-frN l k)
   omega
  ·split
   ·rw[List.length_map];have h1:=qeR (d.getD (qba x l d k d.length).toNat default).txt;have h2:=qqp (j:=(qba x l d k d.length).toNat) ht;omega
   ·exact nzl _
theorem qnE(x:Co)(s f t:Nat):(rwC x s f t).length≤t-f:=by
 unfold rwC;rw[jJ];exact qeN x s f _
theorem qnI{x:Co}{l:List Un}{d:List Dc}{s:Nat}(h:qd6 x l=true)(ht: ∀o∈d,o.txt.length≤1000): ∀k,k≤l.length→(rwL x l d s k).length≤jU l k+1000*k∧k≤jU l k:=by
 intro k
 induction k with
 |zero=>intro _;exact⟨nzl _,nzl _⟩
 |succ k ih=>
  intro hk;obtain⟨i1,i2⟩:=ih om;have hp:=qni h (show k<l.length by omega);obtain⟨_,_,a3,a4,_⟩:=qbT h (show k<l.length by omega);have u:=qvN (x:=x) (l:=l) (s:=s) (k:=k) ht;have c:=qnE x s (jU l k) (frN l k);rw[qq6];refine⟨?_,om⟩;show (rwL x l d s k++(rwC x s (jU l k) (frN l k)++rwU x l d s k)).length≤_;rw[lap,lap];omega
theorem qvK{x:Co}{l:List Un}{d:List Dc}{s:Nat}(h:qd6 x l=true)(ht: ∀o∈d,o.txt.length≤1000):(rwA x l d s).length≤1001*x.col.length:=by
 obtain⟨h1,h2⟩:=qnI (d:=d) (s:=s) h ht l.length (nlr _);have hp:=qgE h (nlr l.length);have c:=qnE x s (jU l l.length) x.col.length;unfold rwA;rw[lap];omega
theorem qdm{x:Co}{l:List Un}{d:List Dc}{s:Nat}(hc:x.col.length≤10000)(ht: ∀o∈d,o.txt.length≤1000)(h:vaE x l=0):(rwA x l d s).length≤1000000000:=by
 have:=qvK (d:=d) (s:=s) (qf5 h).2.1 ht
 omega
theorem qgr{x:Co}{l:List Un}{d:List Dc}{s:Int}:(esR x l d s).length≤1024:=by
 unfold esR;split
 ·rename_i h;rw[j9];exact (qfq h).2.ln
 ·exact nzl _
end RC
end
section
open Go Go.Proofs AF
def quG:List Nat:= []
def qCh:C:=
 ((C.ops [O1 1 (.box 0 26) 0,ON 2 (.nilo 1 3 64) [],MC 3 (i6 0)]).seq (((C.ops [O1 7 (.load (some 4)) 1,O1 8 (.call 67 true) 7,BC 9 .neq 8 (i6 0)]).seq (C.cond (.t 9) ((C.ops
 [ON 2 (.nilo 1 3 64) [],MC 3 (i6 1)]).seq C.ret) C.skip)).seq ((C.ops [⟨some 4,none,.alloc 2 28 [.nl],[]⟩]).seq (((C.wk.seq (C.ops [O1 10 (.load (some 4)) 1,O1 11 (.call 88
 true) 10])).seq (C.block 0 (C.range (.t 11) [12,13] ((C.ops [MV 5 12]).seq (C.ops [MV 6 13])) (C.block 1 (C.draw (DT.one ⟨some 15,none,.mv,[.t 5]⟩ (DT.one ⟨some 16,none,.mv,
 [.t 6]⟩ (DT.one ⟨some 17,none,.load (some 4),[.t 1]⟩ (DT.one ⟨some 18,none,.mv,[.t 5]⟩ (DT.one ⟨some 19,none,.mv,[.t 6]⟩ (DT.uni ⟨some 20,none,.call 89 true,[.t 17,.t
 18,.t 19]⟩ (DT.one ⟨some 21,none,.build [i6 0,i6 0,.nl] [(0,1),(1,1),(2,1)],[.t 15,.t 16,.t 20]⟩ ((DT.one ⟨some 14,none,.load none,[.t 4]⟩ (DT.one ⟨some 22,none,
 .bslc 3 3 1 64 [i6 0,i6 0,.nl] [(0,3)],[.t 21]⟩ (DT.one ⟨some 23,none,.app 4 3 64 40,[.t 14,.t 22]⟩ (DT.one ⟨none,none,.store 1,[.t 4,.t 23]⟩ DT.nil)))).two (DT.one
 ⟨some 22,none,.bslc 3 3 1 64 [i6 0,i6 0,.nl] [(0,3)],[.t 21]⟩ (DT.one ⟨some 14,none,.load none,[.t 4]⟩ (DT.one ⟨some 23,none,.app 4 3 64 40,[.t 14,.t 22]⟩ (DT.one
 ⟨none,none,.store 1,[.t 4,.t 23]⟩ DT.nil))))))))))))))))).seq ((C.ops [LD 24 4,MV 2 24,MC 3 (i6 0)]).seq
 C.ret)))))
theorem qzL:qM Tryz.prog 31 25 5 [RV.tmp 2,RV.tmp 3] qCh:=fi Tryz.f31 [1,2,4,22,23] quG [4]
end
section
open Go Go.Proofs AF HY LN
namespace RC
def utE(x:Co):Int:=if coE x=0 then 0 else 1
def utR(x:Co):List Un:=if coE x=0 then qjZ x else []
theorem qry{v n:Nat}{L:List Un}{ty:TypeId}{fz:Nat→Bool}{h:List AObj}{d:Nat}(hn:n=L.length):VLe (qhW (some (zk v ty (qaZ L))) v 3 0 n (rei fz h (d+1))) (zS L):=by
 subst hn;unfold zk;split
 ·rename_i e
  have:L= []:=by
   cases L with
   |nil=>rfl
   |cons a r=>exact absurd e (by simp[qaZ,unC])
  subst this;rw[slOf_emp,ipo rfl];exact zf
 ·rw[slOf_mem,ipo ⟨rfl,by rw[qcV];omega⟩];refine VLe.sl_eq rfl (fun i hi=> ?_);simp only[Nat.zero_add];rw[qia hi];rfl
theorem qDP(x:Co)(h:List AObj)(hz:qdE x)(hp:kQ SG h):ACalls Tryz.prog 31 [.agg (coC x)] h (.tup [zS (utR x),.int .i64 (utE x)]) h:=by
 have c1:=fun l'=>coP x (h++l') hz (hp.app l')
 unfold utE utR
 by_cases g:coE x=0
 case neg=>
  have k1:(coE x=0)=False:=eqf g;rw[ine g,ine g];obtain⟨e,he⟩: ∃e,e=coE x:=⟨_,rfl⟩
  rw[←he]at c1 k1;unfold coC at c1;refine acO qzL ?_;simp (disch:=omega) only[qCh,coC,go_sem]
  repeat' first
   |(refine cA (c1 _) flk ?_;simp (disch:=omega) only[k1,go_sem])
   |(apply qb;exact rvk;simp only[go_sem])
  exact VLe.tup ⟨zf,qi,trivial⟩
 rw[ipo g,ipo g];simp only[g]at c1;have ho:=qci g;have hn:=hz.cl;have c2:=fun h=>qEG x h
 have lx: ∀n v ty,lowO n (.mem v ty (coC x)):=fun n v ty=>quT x n v ty
 unfold coC at c1 c2;refine acO qzL ?_;simp (disch:=omega) only[qCh,coC,go_sem]
 repeat' first
  |(refine cA (c1 _) flk ?_;simp (disch:=omega) only[go_sem])
 refine⟨_,_,Wk.ownNil (j:=h.length+2) (i:=0) (k:=h.length+4) (v:=1) (ty:=28) (cs:= [.nl]) (ve:=0) (sz:=3) ?m1 rfl ?m2,?_⟩
 case m1=>simp only[go_sem]
 case m2=>simp only[go_sem]
 simp (disch:=omega) only[List.set_cons_zero,go_sem]
 repeat' first
  |(refine cA (c2 _) flk ?_;simp (disch:=omega) only[go_sem])
 have hrl:=qgG x;have hrg:=fun i hi=>qnv (x:=x) (i:=i) hi
 have hul:(qjZ x).length=(qd3 (cmB x) x.col.length).length:=qib x;have hue:=fun i (hi:i<(qd3 (cmB x) x.col.length).length)=>qg5 (x:=x) (k:=i) hi
 have hin:=fun i (hi:i<(qd3 (cmB x) x.col.length).length)=>qsS (x:=x) (k:=i) hi
 have hle:(qjZ x).length≤1000000000:=by
  have h1:=qnI (s:=0) (qot x) (d:= []) (by simp) (qjZ x).length (nlr _);have h2:=qgE (qot x) (nlr (qjZ x).length);omega
 unfold rnL at hue hin;obtain⟨rs,hrs⟩: ∃rs,rs=qd3 (cmB x) x.col.length:=⟨_,rfl⟩
 simp only[←hrs]at hrl hrg hul hue hin;obtain⟨L,hL⟩: ∃L,L=qjZ x:=⟨_,rfl⟩
 simp only[←hL]at hul hue hle ⊢;obtain⟨X0,hX0⟩: ∃X0,X0=AObj.mem 1 26 [.str x.sec,strs x.sig,qm x.tok,qw x.col]:=⟨_,rfl⟩
 refine zy (xs:=rnX x) (itR x ho hn) (qnw x)
  (S:=fun i hh=> ∃w O1,qJ [O1] 0=true∧(∀n,lowO n O1)∧hh=h++ [.mem 1 26 (coC x),.emp 1,.mem 1 28 [.osl (h.length+4) w 3 0 i],O1,zk w 64 (qaZ (L.take i))])
  (E:=fun _ _=>False) ?e1 (fun _ _ h=>h.elim) ?e2 ?e3 ?e4 ?e5 (fun _ _ h=>h.elim)
 case e1=>
  rintro i hh ⟨w,O1,_,l1,rfl⟩;refine LowI.app rfl (fun o ho=> ?_);simp only[List.mem_cons,List.not_mem_nil,or_false]at ho;rcases ho with rfl|rfl|rfl|rfl|rfl
  ·left;simp[coC]
  ·left;simp
  ·right;constructor<;>(intro c hc;simp only[List.mem_cons,List.not_mem_nil,or_false]at hc;rcases hc with rfl;simp[qV])
  ·right;exact⟨l1 _,l1 _⟩
  ·right;exact⟨jt (qeS _ _),jt (qeS _ _)⟩
 case e2=>exact⟨0,.emp 0,rfl,fun _=>trivial,rfl⟩
 case e3=>
  have lt: ∀n,qV n (qm x.tok)=true:=fun _=>rfl
  have lc: ∀n,qV n (qw x.col)=true:=fun _=>rfl
  simp[qV,qV.lowVs,lt,lc,qhD]
  try omega
 case e4=>
  rintro i hh tl LI TS hi ⟨w,O1,p1,l1,rfl⟩ hlen K4 K5 hK4 hN hR' hX;rw[hrg i hi];rw[hrl]at hi;have e5:=hue i hi;obtain⟨f1,f2,_⟩:=hin i hi;have e6:rs.getD i (0,0)=rs[i]:=by rw[gdqA,zL hi];rfl
  rw[e6];have p1': ∀m,qJ (O1::m) 0=true:=fun _=>p1
  have hTk:L.take (i+1)=L.take i++ [L.getD i default]:=by
   rw[List.take_add_one,zL om,gdqA,zL om];rfl
  rw[e5]at hTk;have hTl:(L.take i).length=i:=by rw[List.length_take];omega
  have eVl:=qcV (L.take i);rw[hTl]at eVl;have eVk:List.take (i*3) (qaZ (L.take i))=qaZ (L.take i):=ltl om;obtain⟨⟨f,t⟩,hr⟩: ∃r,r=rs[i]:=⟨_,rfl⟩
  rw[←hr]at hTk f1 f2 ⊢;have eVn:qaZ (L.take (i+1))=qaZ (L.take i)++ [.int .i64 (f:Int),.int .i64 (t:Int),jV (qe5 x f t)]:=by rw[hTk,qrW,qrX];rfl
  have c48:=fun h=>qEF x f t h ho f2 hn
  unfold coC at c48;have zr: ∀X,(jV X).cells= [jV X]:=fun _=>rfl
  have zm:List.drop 3 (qY [AV.int .i64 0,.int .i64 0,.nl] 1)= []:=rfl;have hi9:((i:Int)+1)*24≤140737488355328:=by omega
  simp only[kJ];simp (disch:=omega) only[List.append_assoc,coC,go_sem];refine hK4 _ _ (h++ [.mem 1 26 (coC x),.emp 1,.mem 1 28 [.osl (h.length+4) w 3 0 i],O1,zk w 64 (qaZ (L.take i))]) (by simp[coC]) (by simp) ?_;simp (disch:=omega) only[List.append_assoc,coC,go_sem];refine jB ?T ?H ?h1 ?h2
  case h1=>
   simp (disch:=omega) only[go_sem]
   repeat' first
    |(refine cU (fun _=>c48 _) flk ?_;simp (disch:=omega) only[p1',eVl,eVk,List.set_cons_zero,zr,zm,go_sem])
    |with_reducible apply aiA
   all_goals first
    |omega
    |rfl
    |(rw[bne_iff_ne];omega)
    |skip
  case h2=>
  simp (disch:=omega) only[go_sem];refine hN _ _ (h++ [.mem 1 26 (coC x),.emp 1,.mem 1 28 [.osl (h.length+4) (w+1) 3 0 (i+1)],.mem (qo (some O1)+1) 64 [.int .i64 (f:Int),.int .i64 (t:Int),jV (qe5 x f t)],zk (w+1) 64 (qaZ (L.take (i+1)))]) (by rw[eVn];simp[coC]) (by simp)
   ⟨w+1,_,rfl,?lw,rfl⟩
  case lw=>
  intro n c hc;simp only[List.mem_cons,List.not_mem_nil,or_false]at hc;rcases hc with rfl|rfl|rfl<;>rfl
 case e5=>
  rintro hh ⟨w,O1,p1,l1,rfl⟩;rw[hrl,←hul,List.take_length];simp (disch:=omega) only[go_sem]
  repeat' first
   |(apply qb;exact rvk;simp only[go_sem])
   |with_reducible apply aiA
  all_goals try exact clz
  exact VLe.tup ⟨qry rfl,qi,trivial⟩
end RC
end
section
open Go Go.Proofs AF
end
section
open Go Go.Proofs AF HY LN
namespace RC
end RC
end
section
namespace Go.Proofs
open Go.Shelf
end Go.Proofs
end
section
open Go Go.Proofs AF HY LN
namespace RC
end RC
end
section
open Go Go.Proofs AF
end
section
open Go Go.Proofs AF HY LN
namespace RC
end RC
end
section
open Go Go.Proofs AF
def qmh:List Nat:= []
def qEl:C:=
 ((C.ops [MC 4 (.bool false)]).seq (((C.ops [MV 6 0,O1 7 .len 6,MV 8 1,O1 9 .len 8,BI 10 .neq 7 9]).seq (C.cond (.t 10) ((C.ops [MC 4 (.bool false)]).seq C.ret) C.skip)).seq
 (((C.ops [MC 5 (i6 0)]).seq (C.block 0 (((C.ops [MV 11 5,MV 12 0,O1 13 .len 12,BI 14 .lss 11 13]).seq (C.cond (.t 14) C.skip (C.exit 0))).seq ((C.block 1 ((C.ops [MV 17 0,MV 18
 5,O2 19 (.idxA 7) 17 18,O1 20 (.load (some 7)) 19,MV 21 1,MV 22 5,O2 23 (.idxA 7) 21 22,O1 24 (.load (some 7)) 23,⟨some 25,none,.aeq [.str,.int,.int,.int,.bool,.bool,
 .str] true,[.t 20,.t 24]⟩]).seq (C.cond (.t 25) ((C.ops [MC 4 (.bool false)]).seq C.ret) C.skip))).seq (C.ops [MV 15 5,BC 16 .add 15 (i6 1),MV 5 16]))).loop)).seq ((C.ops [MC 4
 (.bool true)]).seq
 C.ret))))
theorem qCZ:qM Tryz.prog 44 26 0 [RV.tmp 4] qEl:=fi Tryz.f44 [] qmh []
def qEg:C:=
 ((C.ops [MC 2 (.bool false)]).seq (((C.ops [MC 3 (i6 0)]).seq (C.block 0 (((C.ops [MV 4 3,MV 5 0,O1 6 .len 5,BI 7 .lss 4 6]).seq (C.cond (.t 7) C.skip (C.exit 0))).seq ((C.block
 1 ((C.ops [MV 10 0,MV 11 3,O2 12 (.idxA 4) 10 11,O1 13 (.fldA 1) 12,LD 14 13,O1 15 .slen 14,BC 16 .gtr 15 (i6 30),MV 17 16,MG 18 17 false 0,MG 19 17 false 3,P2 20 17
 false (.idxA 4) 18 19,P1 21 17 false (.fldA 3) 20,P1 22 17 false (.load none) 21,P1 23 17 false .slen 22,PC 24 17 false (.bin .gtr) 23 (i6 30),PT 25 17 24]).seq (C.cond (.t
 25) ((C.ops [MC 2 (.bool true)]).seq C.ret) C.skip))).seq (C.ops [MV 8 3,BC 9 .add 8 (i6 1),MV 3 9]))).loop)).seq ((C.ops [MV 26 0,O1 27 .len 26,BC 28 .gtr 27 (i6 6),MV 2
 28]).seq
 C.ret)))
theorem qCT:qM Tryz.prog 23 29 0 [RV.tmp 2] qEg:=fi Tryz.f23 [] qmh []
end
section
open Go Go.Proofs AF HY LN
namespace RC
def gDc(d:List Dc)(i:Nat):Bool:=decide (30<(d.getD i default).sig.length)||decide (30<(d.getD i default).txt.length)
def qiR(d:List Dc):Bool:=ju (gDc d) d.length||decide (6<d.length)
theorem qqn(b:List Dc)(h:List AObj)(hn:b.length≤9223372036854775807):ACalls Tryz.prog 23 [kl b] h (.bool (qiR b)) h:=by
 obtain⟨R,hR⟩: ∃R,R=qiR b:=⟨_,rfl⟩
 rw[←hR];unfold qiR at hR;have zb:kl b= .sl b.length fun i=>dcC (b.getD i default):=rfl
 refine acO qCT ?_;simp (disch:=omega) only[qEg,go_sem];refine qu (T:=fun i:Nat=>ze 29 [(0,kl b),(3,.int .i64 i)]) (H:=fun _=>h) (inv:=fun i=>i≤b.length∧ ∀j,j<i→gDc b j=false) (m:=fun i=>b.length-i) 0 ⟨nzl _,fun j hj=>absurd hj (nnz j)⟩ (Wk.temps ?_) ?_
 ·(simp only[go_sem,qg,qc,qa,qf];try (repeat' first|(with_reducible apply aiA)|(apply qh;omega)|(apply qe;rfl)|exact qi))
 rintro i ⟨i1,i2⟩ K hK
 by_cases hi:i<b.length
 ·have k1:((i:Int)<b.length)=True:=eqt om;have k0:(0≤(i:Int))=True:=eqt om;have hit:gDc b i=true→R=true:=fun hc=>by rw[hR,qR.2 ⟨i,hi,hc⟩];rfl
  have i3:=fun hc=>kq (p:=gDc b) i2 hc
  have hG:gDc b i=(decide (30<(b.getD i default).sig.length)||decide (30<(b.getD i default).txt.length)):=rfl;obtain⟨w,hw⟩: ∃w,w=b.getD i default:=⟨_,rfl⟩
  have ew:=hw.symm;rw[ew]at hG
  by_cases g1:30<w.sig.length
  ·have q1:((30:Int)<w.sig.length)=True:=eqt om;rw[hit (by rw[hG,dqt g1];rfl)];simp (disch:=omega) only[zb,dcC,k0,k1,ew,q1,go_sem]
   repeat' first
    |(apply qd;exact rvk;simp only[go_sem];exact qi)
  have q1:((30:Int)<w.sig.length)=False:=eqf om
  by_cases g2:30<w.txt.length
  ·have q2:((30:Int)<w.txt.length)=True:=eqt om;rw[hit (by rw[hG,dqt g2,Bool.or_true])];simp (disch:=omega) only[zb,dcC,k0,k1,ew,q1,q2,go_sem]
   repeat' first
    |(apply qd;exact rvk;simp only[go_sem];exact qi)
    |with_reducible apply aiA
   all_goals try exact clz
  have q2:((30:Int)<w.txt.length)=False:=eqf om;simp (disch:=omega) only[zb,dcC,k0,k1,ew,q1,q2,go_sem]
  repeat' first
   |with_reducible apply aiA
  all_goals try exact clz
  refine hK _ _ (i+1) ⟨hi,i3 (by rw[hG,dqf g1,dqf g2];rfl)⟩ om (Wk.temps ?_)
  (simp only[zb,dcC,go_sem,qg,qc,qa,qf];try (repeat' first|(with_reducible apply aiA)|(apply qh;omega)|(apply qe;rfl)|exact qi))
 obtain rfl:i=b.length:=by omega
 have k1:((b.length:Int)<b.length)=False:=eqf om;rw[qt.2 (fun j hj=>i2 j hj),Bool.false_or]at hR
 by_cases g:6<b.length
 ·have q:((6:Int)<b.length)=True:=eqt om;rw[dqt g]at hR;rw[hR];simp (disch:=omega) only[zb,k1,q,go_sem]
  repeat' first
   |(apply qd;exact rvk;simp only[go_sem];exact qi)
 ·have q:((6:Int)<b.length)=False:=eqf om;rw[dqf g]at hR;rw[hR];simp (disch:=omega) only[zb,k1,q,go_sem]
  repeat' first
   |(apply qd;exact rvk;simp only[go_sem];exact qi)
theorem qeo{d:List Dc}(h:qiR d=false):d.length≤6∧(∀j,(d.getD j default).sig.length≤30)∧ ∀o∈d,o.txt.length≤30:=by
 unfold qiR at h;rw[Bool.or_eq_false_iff,decide_eq_false_iff_not]at h;have key: ∀i,i<d.length→ ¬30<(d.getD i default).sig.length∧ ¬30<(d.getD i default).txt.length:=fun i hi=>by
  have:=qt.1 h.1 i hi
  unfold gDc at this;rw[Bool.or_eq_false_iff,decide_eq_false_iff_not,decide_eq_false_iff_not]at this;exact this
 refine⟨om,jF d (fun d=>d.sig.length≤30) (by decide) fun i hi=>by have:=(key i hi).1;omega,fun o ho=> ?_⟩;obtain⟨i,hi,rfl⟩:=List.getElem_of_mem ho
 have:=(key i hi).2
 rw[gdqA,zL hi]at this;simp only[Option.getD_some]at this;omega
structure Cq where
 x:Co
 l:List Un
 d:List Dc
 lead:Int
def cqC(a:Cq):List AV:= [.str a.x.sec,strs a.x.sig,qm a.x.tok,qw a.x.col,zS a.l,kl a.d,.int .i64 a.lead]
structure CqB (a:Cq):Prop where
 x:CoB a.x
 l:UnB a.l
 d:a.d.length≤9223372036854775807
def quz(a:Cq):Bool:=qux a.x||(quy a.l||qiR a.d)
structure CqS (a:Cq):Prop where
 x:qdE a.x
 l:qik a.l
 cl:a.x.col.length≤24
 sl:a.x.sig.length≤36
 ll:a.l.length≤12
 d:a.d.length≤6
 g: ∀j,(a.d.getD j default).sig.length≤30
 t: ∀o∈a.d,o.txt.length≤30
theorem qsE{a:Cq}(h:quz a=false):CqS a:=by
 unfold quz at h;rw[Bool.or_eq_false_iff,Bool.or_eq_false_iff]at h;obtain⟨h1,h2,h3⟩:=h;obtain⟨o1,o2,o3⟩:=qsC h1;obtain⟨u1,u2⟩:=qsD h2;obtain⟨d1,d2,d3⟩:=qeo h3;exact⟨o1,u1,o2,o3,u2,d1,d2,d3⟩
theorem CqS.lim{a:Cq}(h:CqS a)(s:Nat)(g:vaE a.x a.l=0):(rwA a.x a.l a.d s).length≤1000000000:=
 qdm (by have:=h.cl;omega) (fun o ho=>by have:=h.t o ho;omega) g
theorem qCy(h:List AObj):ACalls Tryz.prog 81 [.nl] h .nl h:=by
 refine acO qut ?_;simp (disch:=omega) only[qB0,go_sem]
 repeat' first
  |(apply qb;exact rvk;simp only[go_sem];exact qi)
theorem qFC(a:Int)(h:List AObj):ACalls Tryz.prog 78 [qI [a],.int .i64 0] h (qI []) h:=by
 have s1:=fun h=>qhZ h [a]
 have c1:=fun h=>qED 0 h om
 have z1: ∀g,valL g .len [qI [a]]= .int .i64 1:=fun _=>rfl
 have z2: ∀g,okL g .len [qI [a]]=True:=fun _=>eqt trivial
 have e5:IntKind.u64.wrap 1=1:=by decide
 have e6:IntKind.u64.wrap 0=0:=by decide
 rw[show ((0:Nat):Int)=0 from rfl]at c1;refine acO qzR ?_;simp (disch:=omega) only[qCm,z1,z2,e5,e6,go_sem]
 repeat' first
  |(refine cA (c1 _) flk ?_;simp (disch:=omega) only[s1,go_sem])
  |with_reducible first|intro _|apply aiA
 all_goals try exact clz
 ·rfl
 refine qu (T:=fun _:Unit=>ze 48 [(7,.osl (h.length+1) 1 1 0 0),(8,.int .i64 0)]) (H:=fun _=>h++ [.emp 1,.mem 1 3 []])
  (inv:=fun _=>True) (m:=fun _=>0) () trivial (Wk.temps ?_) ?_
 ·(simp only[go_sem,qg,qc,qa,qf];try (repeat' first|(with_reducible apply aiA)|(apply qh;omega)|(apply qe;rfl)|exact qi))
 rintro⟨⟩-K hK;have q1:((0:Int)<0)=False:=eqf om;simp (disch:=omega) only[go_sem]
 repeat' first
  |(apply qb;exact rvk;simp only[go_sem])
  |with_reducible first|intro _|apply aiA
 all_goals try exact clz
 exact VLe.sl_eq rfl (fun i hi=>absurd hi (nnz _))
theorem qAO{hh:List AObj}{j v:Nat}(a:Int)(cs:List AV)(hj:qr j hh=some (.mem v 3 (.int .i64 a::cs))):
  ACalls Tryz.prog 78 [.osl j v 1 0 1,.int .i64 0] hh (qI []) (qn j hh (.emp (v+1))):=by
 have hs:qJ hh j=true:=by unfold qJ;rw[hj]
 have e1:qbx [j] hh=qn j hh (.emp (v+1)):=by show qn j hh (.emp (qo (qr j hh)+1))=_;rw[hj];rfl
 refine ACalls.frzd [j] (by show (qJ hh j&&true)=true;rw[hs];rfl) ?_;rw[e1];refine (qFC a _).le ⟨?_,qi,trivial⟩ (qi);have hc:=qP hj;have e: [j].contains j=true:=by simp
 simp only[go_sem,e,if_true,hc];rw[hj,slOf_mem,ipo ⟨rfl,by simp⟩];refine VLe.sl_eq rfl (fun i hi=> ?_);obtain rfl:i=0:=by omega
 rfl
theorem qCO(x:Co)(d:List Dc)(s:Int)(h:List AObj)(hz:qdE x)(hp:kQ SG h)(hg:zK h frmN frmC)(hd:d.length≤1000000)(ht: ∀o∈d,o.txt.length≤1000)(hN0:vaE x []=0→(rwA x [] d s.toNat).length≤1000000000):
  ACalls Tryz.prog 25 [.agg (coC x),.nl,kl d,.int .i64 s] h (.tup [kX (esR x [] d s),.int .i64 (esE x [] d s)]) h:=by
 have hu:qik []:=⟨by simp,fun i=>by simp;exact nzl _,fun i j=>by simp;exact nzl _,fun i j=>by simp;exact nzl _⟩
 have c1:=fun l'=>(qpI x [] (h++l') hz hu (hp.app l')).le (args:= [.agg (coC x),.nl]) ⟨qi,zf,trivial⟩ (qi)
 have zu: ∀g l,valL g .len [zS l]= .int .i64 l.length:=fun _ _=>rfl
 have zv: ∀g l,okL g .len [zS l]=True:=fun _ _=>eqt trivial
 have zu1: ∀g l,valL g .len [strs l]= .int .i64 l.length:=fun _ _=>rfl
 have zv1: ∀g l,okL g .len [strs l]=True:=fun _ _=>eqt trivial
 have hE:esE x [] d s=(if vaE x []≠0 then vaE x [] else if s<0∨(x.sig.length:Int)≤s then 2 else if qbH x [] d≠0 then qbH x [] d else if 1024<(rwA x [] d s.toNat).length then 4 else 0):=rfl;unfold esR
 by_cases g:vaE x []=0
 case neg=>
  have k1:(vaE x []=0)=False:=eqf g;rw[ipo g]at hE;rw[hE,ine g];unfold coC at c1;refine acO qa8 ?_;simp (disch:=omega) only[qgb,coC,go_sem]
  repeat' first
   |(refine cA (c1 _) flk ?_;simp (disch:=omega) only[k1,go_sem])
   |(apply qb;exact rvk;simp only[go_sem])
  exact VLe.tup ⟨zf,qi,trivial⟩
 rw[ine (by simpa using g)]at hE;have hN:=hN0 g;simp only[g]at c1;obtain⟨hca,hus,hcv⟩:=qf5 g;have ho:=qci hca
 by_cases g2:s<0
 ·have k2:(s<0)=True:=eqt g2;rw[ipo (.inl g2)]at hE;rw[hE,ine (by decide)];unfold coC at c1;refine acO qa8 ?_;simp (disch:=omega) only[qgb,coC,go_sem]
  repeat' first
   |(refine cA (c1 _) flk ?_;simp (disch:=omega) only[k2,go_sem])
   |(apply qb;exact rvk;simp only[go_sem])
  exact VLe.tup ⟨zf,qi,trivial⟩
 have k2:(s<0)=False:=eqf g2
 by_cases g3:(x.sig.length:Int)≤s
 ·have k3:((x.sig.length:Int)≤s)=True:=eqt g3;rw[ipo (.inr g3)]at hE;rw[hE,ine (by decide)];unfold coC at c1;refine acO qa8 ?_;simp (disch:=omega) only[qgb,coC,go_sem]
  repeat' first
   |(refine cA (c1 _) flk ?_;simp (disch:=omega) only[k2,k3,zu1,zv1,go_sem])
   |(apply qb;exact rvk;simp only[go_sem])
  exact VLe.tup ⟨zf,qi,trivial⟩
 have k3:((x.sig.length:Int)≤s)=False:=eqf g3;rw[ine (fun e=>e.elim g2 g3)]at hE;have c2:=fun l'=>(qDw x [] d (h++l') hz hu (hp.app l') hg.app hca hd ht).le (args:= [.agg (coC x),.nl,kl d]) ⟨qi,zf,qi,trivial⟩ (qi)
 unfold qAx at c2
 by_cases g4:qbH x [] d=0
 case neg=>
  have k4:(qbH x [] d=0)=False:=eqf g4;simp only[ine g4]at c2;rw[ipo g4]at hE;rw[hE,ine g4];unfold coC at c1 c2;refine acO qa8 ?_;simp (disch:=omega) only[qgb,coC,go_sem]
  repeat' first
   |((first|refine cA (c1 _) ?_ ?_|refine cA (c2 _) ?_ ?_);exact flk;simp (disch:=omega) only[k2,k3,k4,zu1,zv1,go_sem])
   |(apply qb;exact rvk;simp only[go_sem])
   |with_reducible apply aiA
  all_goals try exact clz
  exact VLe.tup ⟨zf,qi,trivial⟩
 rw[ine (by simpa using g4)]at hE;simp only[g4,if_true]at c2;rw[hE];unfold coC at c1 c2;refine acO qa8 ?_;simp (disch:=omega) only[qgb,coC,go_sem]
 repeat' first
  |((first|refine cA (c1 _) ?_ ?_|refine cA (c2 _) ?_ ?_);exact flk;simp (disch:=omega) only[k2,k3,zu1,zv1,go_sem])
  |with_reducible apply aiA
 all_goals try exact clz
 have hd0:d= []:=by
  cases d with
  |nil=>rfl
  |cons o r=>
   exfalso
   have:=g4
   unfold qbH at this;split at this
   ·cases this
   ·have h0:=jD.1 this 0 (by simp);have h1:=(qbb h0).2.2.2.2.1;have h2:km x [] ((o::r).getD 0 default)= -1:=rfl;omega
 subst hd0;have zi: ∀g l,valL g .len [qI l]= .int .i64 l.length:=fun _ _=>rfl
 have zj: ∀g l,okL g .len [qI l]=True:=fun _ _=>eqt trivial
 have ePL:(plG x [] [] ([]:List Dc).length).length=0:=rfl;refine qx (qAO (j:=h.length+2) (-1) (List.drop 1 (qY [.int .i64 0] 1)) ?j1) (by exact flk) ?_
 case j1=>simp only[go_sem]
 simp (disch:=omega) only[zi,zj,go_sem];refine qu (T:=fun _:Unit=>ze 154 [(1,.nl),(3,.int .i64 s),(4,.op h.length 1 0),(13,qI []),(56,.int .i64 0),(57,.int .i64 0)])
  (H:=fun _=>h++ [.mem 1 26 [.str x.sec,strs x.sig,qm x.tok,qw x.col],.emp 1,.emp 2,.emp 0,.emp 0,.emp 0,.emp 0,.emp 0,.emp 0,.emp 0,.emp 0,.emp 0,.emp 0,.emp 0,.emp 0,.emp 0])
  (inv:=fun _=>True) (m:=fun _=>0) () trivial (Wk.temps ?_) ?_
 ·(simp only[go_sem,qg,qc,qa,qf];try (repeat' first|(with_reducible apply aiA)|(apply qh;omega)|(apply qe;rfl)|exact qi))
 rintro⟨⟩-K hK;have q1:((0:Int)<0)=False:=eqf om;simp (disch:=omega) only[q1,go_sem];refine⟨_,_,Wk.ownNil (j:=h.length+3) (i:=0) (k:=h.length+15) (v:=1) (ty:=29) (cs:= [.nl]) (ve:=0) (sz:=7) ?m1 rfl ?m2,?_⟩
 case m1=>simp only[go_sem]
 case m2=>simp only[go_sem]
 simp (disch:=omega) only[List.set_cons_zero,go_sem];have bne5:(h.length+6 !=h.length+5)=true:=by simp
 have zc: ∀g l,valL g .len [qw l]= .int .i64 l.length:=fun _ _=>rfl
 have zd: ∀g l,okL g .len [qw l]=True:=fun _ _=>eqt trivial
 refine jB ?T ?H ?h1 ?h2
 case h1=>
  simp (disch:=omega) only[zc,zd,go_sem]
  repeat' first
   |(with_reducible apply aiA)
   |(refine qx (qCy _) (by exact flk) ?_;simp (disch:=omega) only[zc,zd,go_sem])
  all_goals first
   |omega
   |rfl
   |exact bne5
 case h2=>
 simp (disch:=omega) only[go_sem];obtain⟨S,hS⟩: ∃S:Nat,s=S:=⟨s.toNat,om⟩
 subst hS;rw[itn]at hN ⊢;have hSl:S<x.sig.length:=by omega
 obtain⟨MC,hMC⟩: ∃MC,MC= [AV.int .i64 x.col.length,.int .i64 x.col.length,.nl]:=⟨_,rfl⟩
 rw[←hMC];obtain⟨O5,hO5⟩: ∃O5,O5=AObj.mem 1 64 (AV.int .i64 x.col.length:: .int .i64 x.col.length:: .nl::List.drop 3 (qY [.int .i64 0,.int .i64 0,.nl] 1)):=⟨_,rfl⟩
 rw[←hO5];obtain⟨X0,hX0⟩: ∃X0,X0=AObj.mem 1 26 [.str x.sec,strs x.sig,qm x.tok,qw x.col]:=⟨_,rfl⟩
 have lX0: ∀n,lowO n X0:=by
  intro n;rw[hX0];intro c hc;simp at hc;rcases hc with rfl|rfl|rfl|rfl<;>rfl
 refine qu (T:=fun i:EsS=>ze 154 [(1,.nl),(3,.int .i64 (S:Int)),(4,.op h.length 1 0),(13,qI []),(16,.op (h.length+3) 1 0),(17,.op (h.length+4) 1 0),(18,.int .i64 (nxT x [] i.k:Int)),(78,.osl (h.length+6) 1 3 0 1),(79,.int .i64 1),(80,.int .i64 i.k)])
  (H:=fun i=>h++ [.mem 1 26 [.str x.sec,strs x.sig,qm x.tok,qw x.col],.emp 1,.emp 2,.mem 1 29 [.osl (h.length+15) i.vb 7 0 (rwK x [] [] S i.k).length],.mem 1 117 [.fn (.func 79) [] [.op (h.length+3) 1 0]],O5,.mem 1 64 MC,i.O7,i.O8,i.O9,i.O10,i.O11,i.O12,.emp 0,.emp 0,zk i.vb 36 (jl (bsW (rwK x [] [] S i.k)))])
  (inv:=fun i=>i.k≤1∧ ∀O∈ [i.O7,i.O8,i.O9,i.O10,i.O11,i.O12],qJ [O] 0=true∧ ∀n,lowO n O) (m:=fun i=>1-i.k) ⟨0,0,.emp 0,.emp 0,.emp 0,.emp 0,.emp 0,.emp 0⟩ ⟨nzl _,fun O hO=>by
   simp at hO;subst hO;exact⟨rfl,fun _=>trivial⟩⟩ (Wk.temps ?_) ?_
 ·(simp only[go_sem,qg,qc,qa,qf];try (repeat' first|(with_reducible apply aiA)|(apply qh;omega)|(apply qe;rfl)|exact qi))
  done
 rintro⟨k,vb,O7,O8,O9,O10,O11,O12⟩ ⟨i1,i2⟩ K hK;simp only at i1 i2 hK;obtain⟨s7,l7⟩:=i2 O7 (by simp);obtain⟨s8,l8⟩:=i2 O8 (by simp);obtain⟨s9,l9⟩:=i2 O9 (by simp);obtain⟨s10,l10⟩:=i2 O10 (by simp);obtain⟨s11,l11⟩:=i2 O11 (by simp);obtain⟨s12,l12⟩:=i2 O12 (by simp);have s7': ∀m,qJ (O7::m) 0=true:=fun _=>s7
 have s8': ∀m,qJ (O8::m) 0=true:=fun _=>s8
 by_cases hk:k≤0
 case neg=>
  have q1:((k:Int)<(1:Int))=False:=eqf om;have eR:rwK x [] [] S k=rwA x [] [] S:=by unfold rwK;rw[lnl,ine hk]
  rw[eR]
  by_cases g5:1024<(rwA x [] [] S).length
  ·have q5:((1024:Int)<(rwA x [] [] S).length)=True:=eqt om;simp only[ipo g5];simp (disch:=omega) only[q1,q5,go_sem]
   repeat' first
    |(apply qb;exact rvk;simp only[go_sem])
    |with_reducible apply aiA
   all_goals try exact clz
   exact VLe.tup ⟨zf,qi,trivial⟩
  ·have q5:((1024:Int)<(rwA x [] [] S).length)=False:=eqf om;simp only[ine g5];simp (disch:=omega) only[q1,q5,go_sem]
   repeat' first
    |(apply qb;exact rvk;simp only[go_sem])
    |with_reducible apply aiA
   all_goals try exact clz
   exact VLe.tup ⟨qcU (j9 _).symm,qi,trivial⟩
 have q1:((k:Int)<(1:Int))=True:=eqt om;have q2:(0≤(k:Int))=True:=eqt om;have hk0:k=0:=by omega
 have hMl:MC.length=3:=by rw[hMC];rfl
 have q3:(k*3+3≤MC.length)=True:=eqt om;have eR:rwK x [] [] S k=rwL x [] [] S k:=by unfold rwK;rw[lnl,ipo hk]
 have eN:nxT x [] k=jU [] k:=by unfold nxT;rw[lnl,ipo hk]
 rw[eR,eN];obtain⟨f,hf⟩: ∃f,f=x.col.length:=⟨_,rfl⟩
 obtain⟨t',ht'⟩: ∃t',t'=x.col.length:=⟨_,rfl⟩
 obtain⟨RV,hRV⟩: ∃RV,RV=AV.nl:=⟨_,rfl⟩
 have eM:List.take 3 (List.drop (k*3) MC)= [.int .i64 (f:Int),.int .i64 (t':Int),RV]:=by rw[hk0,hMC,hf,ht',hRV];rfl
 have a5:jU [] k≤f:=by rw[hk0];exact nzl _
 have a6:f≤x.col.length:=by omega
 have lRV: ∀n,qV n RV=true:=fun n=>by rw[hRV];rfl
 have c3:=fun h=>qA3 x (jU [] k) f S h
 have hit:=itS x S (jU [] k) f hz ho hSl a6 a5;have hpF:=qaJ ho hSl (f:=jU [] k) (d:=f-jU [] k) om;obtain⟨ps,hps⟩: ∃ps,ps=spk x S (jU [] k) (f-jU [] k):=⟨_,rfl⟩
 have hxl:(spX x S (jU [] k) (f-jU [] k))=ps.map fun p=> [.agg (pcC p)]:=by unfold spX;rw[hps]
 rw[hxl]at hit;rw[←hps]at hpF;unfold coC at c3 hit;simp (disch:=omega) only[q1,q2,q3,eM,s7',s8',go_sem]
 repeat' first
  |(refine cA (c3 _) flk ?_;simp (disch:=omega) only[go_sem])
  |with_reducible apply aiA
 all_goals try exact clz
 obtain⟨L0,hL0⟩: ∃L0,L0=rwL x [] [] S k:=⟨_,rfl⟩
 have hLF: ∀r∈L0,PcF r.p:=by rw[hL0];exact qgC ho hus hSl (fun i hi=>absurd hi (by simp)) hk
 have hLn:(L0++rwM ps (-1) (-1)).length≤1000000000:=by
  refine Nat.le_trans ?_ hN;rw[hL0,hps,hf,hk0];exact nlr _
 rw[←hL0];obtain⟨P7,hP7⟩: ∃P7,P7=AObj.mem (qo (some O7)+1) 3 [.int .i64 (k:Int)]:=⟨_,rfl⟩
 obtain⟨P8,hP8⟩: ∃P8,P8=AObj.mem (qo (some O8)+1) 64 [.int .i64 (f:Int),.int .i64 (t':Int),RV]:=⟨_,rfl⟩
 have hP7l:qJ [P7] 0=true∧ ∀n,lowO n P7:=by
  rw[hP7];refine⟨rfl,fun n c hc=> ?_⟩;rw[List.mem_singleton]at hc;subst hc;rfl
 have hP8l:qJ [P8] 0=true∧ ∀n,lowO n P8:=by
  rw[hP8];refine⟨rfl,fun n c hc=> ?_⟩;simp only[List.mem_cons,List.not_mem_nil,or_false]at hc;rcases hc with rfl|rfl|rfl
  ·rfl
  ·rfl
  ·exact lRV n
 have cP7: ∀m,cellsOf (P7::m) 0 (qo (some O7)+1)=some [.int .i64 (k:Int)]:=fun m=>by rw[hP7];simp only[go_sem]
 rw[←hP7,←hP8];have lP: ∀L:List Rw,∀v n,lowO n (zk v 36 (jl (bsW L))):=fun L v n=>jt (qcW _ n)
 have hLow: ∀(L M:List Rw) (v w:Nat) O A,(∀n,lowO n A)→LowI (h++ [.mem 1 26 [.str x.sec,strs x.sig,qm x.tok,qw x.col],.emp 1,.emp 2,.mem 1 29 [.osl (h.length+15) w 7 0 M.length],.mem 1 117 [.fn (.func 79) [] [.op (h.length+3) 1 0]],O5,.mem 1 64 MC,P7,P8,O,O10,O11,O12,.emp 0,.emp 0,zk w 36 (jl (bsW M))])
   (h++ [.mem 1 26 [.str x.sec,strs x.sig,qm x.tok,qw x.col],.emp 1,.emp 2,.mem 1 29 [.osl (h.length+15) v 7 0 L.length],.mem 1 117 [.fn (.func 79) [] [.op (h.length+3) 1 0]],O5,.mem 1 64 MC,P7,P8,A,O10,O11,O12,.emp 0,.emp 0,zk v 36 (jl (bsW L))]):=fun L M v w O A lA=>by
  refine⟨by simp,fun o ho=> ?_⟩;rcases List.mem_append.1 ho with h1|h1
  ·exact .inl (List.mem_append_left _ h1)
  ·simp only[List.mem_cons,List.not_mem_nil,or_false]at h1;rcases h1 with rfl|rfl|rfl|rfl|rfl|rfl|rfl|rfl|rfl|rfl|rfl|rfl|rfl|rfl|rfl|rfl
   ·left;simp
   ·left;simp
   ·left;simp
   ·right;refine⟨fun c hc=> ?_,fun c hc=> ?_⟩<;>
    ·rw[List.mem_singleton]at hc;subst hc;simp[qV]
     try omega
   ·left;simp
   ·left;simp
   ·left;simp
   ·left;simp
   ·left;simp
   ·right;exact⟨lA _,lA _⟩
   ·left;simp
   ·left;simp
   ·left;simp
   ·left;simp
   ·left;simp
   ·right;exact⟨lP _ _ _,lP _ _ _⟩
 refine zy hit (fun a ha=> ?_)
  (S:=fun i hh=> ∃A,qJ [A] 0=true∧(∀n,lowO n A)∧hh=h++ [.mem 1 26 [.str x.sec,strs x.sig,qm x.tok,qw x.col],.emp 1,.emp 2,.mem 1 29 [.osl (h.length+15) (vb+i) 7 0 (L0++rwM (ps.take i) (-1) (-1)).length],.mem 1 117 [.fn (.func 79) [] [.op (h.length+3) 1 0]],O5,.mem 1 64 MC,P7,P8,A,O10,O11,O12,.emp 0,.emp 0,zk (vb+i) 36 (jl (bsW (L0++rwM (ps.take i) (-1) (-1))))]) (E:=fun _ _=>False) ?_ ?_ ?_ ?_ ?_ ?_ ?_
 ·obtain⟨c,_,rfl⟩:=List.mem_map.1 ha;rfl
 ·rintro i hh ⟨A,_,lA,rfl⟩;exact hLow _ _ _ _ _ _ lA
 ·intro s hh hf;exact hf.elim
 ·exact⟨O9,s9,l9,by simp[rwM]⟩
 ·simp[qV,qV.lowVs]
  repeat' apply aiA
  all_goals first|rfl|omega|exact lRV _
 ·rintro i hh tl LI TS hi ⟨A,sA,lA,rfl⟩ hlen K1 K2 hK1 hN1 hR1 hX1;have hi':i<ps.length:=by rw[List.length_map]at hi;exact hi
  rw[List.getElem_map];have sA': ∀m,qJ (A::m) 0=true:=fun _=>sA
  have hS:L0++rwM (ps.take (i+1)) (-1) (-1)=(L0++rwM (ps.take i) (-1) (-1))++ [⟨ps.getD i default,-1,-1⟩]:=by
   unfold rwM;rw[List.take_add_one,zL hi',List.map_append,gdqA,zL hi',List.append_assoc];rfl
  have eG:ps[i]=ps.getD i default:=by rw[gdqA,zL hi'];rfl
  rw[eG];have hpm:ps.getD i default∈ps:=jr hi';obtain⟨p,hp'⟩: ∃p,p=ps.getD i default:=⟨_,rfl⟩
  rw[←hp']at hS hpm ⊢;obtain⟨M,hM⟩: ∃M,M=L0++rwM (ps.take i) (-1) (-1):=⟨_,rfl⟩
  have hMF: ∀r∈M,PcF r.p:=fun r hr=>by
   rw[hM]at hr;rcases List.mem_append.1 hr with hr|hr
   ·exact hLF r hr
   ·exact hpF _ (List.mem_of_mem_take (jS.1 hr).1)
  have hMn:M.length≤1000000000:=by
   rw[hM,lap,jJ,List.length_take];rw[lap,jJ]at hLn;omega
  rw[←hM]at hS ⊢;simp only[kJ,List.append_assoc,lca,lna];simp (disch:=omega) only[sA',pcC,tkC,go_sem];refine hK1 _ _ (h++ [.mem 1 26 [.str x.sec,strs x.sig,qm x.tok,qw x.col],.emp 1,.emp 2,.mem 1 29 [.osl (h.length+15) (vb+i) 7 0 M.length],.mem 1 117 [.fn (.func 79) [] [.op (h.length+3) 1 0]],O5,.mem 1 64 MC,P7,P8,(.mem (qo (some A)+1) 115 (pcC p)),O10,O11,O12,.emp 0,.emp 0,zk (vb+i) 36 (jl (bsW M))]) ?_ ?_ ?_
  ·simp[pcC,tkC]
  ·simp
  ·simp only[List.append_assoc,lca,lna];simp (disch:=omega) only[pcC,tkC,go_sem]
   repeat' first
    |with_reducible apply aiA
   all_goals try exact clz
   refine kA (qwM (a:=h.length+3) (b:=h.length+15) (c:=h.length) (va:=1) (vb:=vb+i) (Z:= .mem 1 26 [.str x.sec,strs x.sig,qm x.tok,qw x.col]) ⟨by simp,by simp,by simp,om,om,om⟩ M p (-1) (-1) (by simp only[go_sem]) (by simp only[go_sem]) (by simp only[go_sem]) (by rw[←hX0];exact lX0) (hpF p hpm) hMn hMF) ?_;simp (disch:=omega) only[go_sem];refine hN1 _ _ (h++ [.mem 1 26 [.str x.sec,strs x.sig,qm x.tok,qw x.col],.emp 1,.emp 2,.mem 1 29 [.osl (h.length+15) (vb+(i+1)) 7 0 (M++ [(⟨p,-1,-1⟩:Rw)]).length],.mem 1 117 [.fn (.func 79) [] [.op (h.length+3) 1 0]],O5,.mem 1 64 MC,P7,P8,(.mem (qo (some A)+1) 115 (pcC p)),O10,O11,O12,.emp 0,.emp 0,zk (vb+(i+1)) 36 (jl (bsW (M++ [(⟨p,-1,-1⟩:Rw)])))]) ?_ ?_ ⟨_,rfl,?_,by rw[hS]⟩
   ·simp[pcC,tkC,Nat.add_assoc]
   ·simp
   ·intro n c hc;simp[pcC,tkC]at hc;rcases hc with rfl|rfl|rfl|rfl|rfl|rfl|rfl<;>rfl
 ·rintro hh ⟨A,sA,lA,rfl⟩;rw[List.length_map,List.take_length];obtain⟨L1,hL1⟩: ∃L1,L1=L0++rwM ps (-1) (-1):=⟨_,rfl⟩
  rw[←hL1]
  by_cases hkl:k<0
  case neg=>
   have hke:k=0:=by omega
   obtain⟨b1,b2⟩:f=x.col.length∧t'=x.col.length:=⟨hf,ht'⟩
   have q4:((k:Int)=0)=True:=eqt om;rw[hP7,hP8];simp (disch:=omega) only[q4,go_sem]
   repeat' first
    |with_reducible apply aiA
   all_goals try exact clz
   rw[←hP7,←hP8];have e1:rwK x [] [] S (k+1)=L1:=by
    unfold rwK;rw[ine (by simp),hL1,hL0,hps,b1,hke];rfl
   have e2:nxT x [] (k+1)=t':=by unfold nxT;rw[ine (by simp),b2]
   refine hK _ _ ⟨k+1,vb+ps.length,P7,P8,A,O10,O11,O12⟩ ⟨by simp only;omega,fun O hO=> ?_⟩ (by simp only;omega) ?_
   ·simp only[List.mem_cons,List.not_mem_nil,or_false]at hO;rcases hO with rfl|rfl|rfl|rfl|rfl|rfl
    ·exact hP7l
    ·exact hP8l
    ·exact⟨sA,lA⟩
    ·exact⟨s10,l10⟩
    ·exact⟨s11,l11⟩
    ·exact⟨s12,l12⟩
   ·simp only[e1,e2];refine Wk.temps ?_
    (simp only[go_sem,qg,qc,qa,qf];try (repeat' first|(with_reducible apply aiA)|(apply qh;omega)|(apply qe;rfl)|exact qi))
  exact absurd hkl (nnz k)
 ·intro e hh hf;exact hf.elim
end RC
end
