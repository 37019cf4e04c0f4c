import Derived.Test.YtiiegfkjmnoijaaGreatDoorK15
import Derived.Test.YtiiegfkjmnoijaaGreatDoorK16
import Derived.Test.YtiiegfkjmnoijaaGreatDoorK3
import Derived.Test.YtiiegfkjmnoijaaGreatDoorK5
import Derived.Test.YtiiegfkjmnoijaaGreatDoorK8
import Derived.Test.YtiiegfkjmnoijaaGreatDoorProg
import Derived.Test.YtiiegfkjmnoijaaGreatDoorK11
import Derived.Test.YtiiegfkjmnoijaaGreatDoorK13
import Derived.Test.YtiiegfkjmnoijaaGreatDoorK10
import Derived.Shelf.Strings.OnBuilder
import Derived.Test.YtiiegfkjmnoijaaGreatDoorK9
import Derived.Test.YtiiegfkjmnoijaaGreatDoorK12
import Derived.Shelf.Slices.In.SortNone
set_option linter.all false
set_option maxHeartbeats 128000000
set_option maxRecDepth 100000
section
open Go Go.Proofs AF HY LN
namespace RC
def UB(x:Co)(l:List Un)(d:List Dc)(n:Nat):List Int:=(List.range l.length).map λk=>TL x l d k n
theorem qgr(x:Co)(l:List Un)(d:List Dc)(n:Nat):(UB x l d n).length=l.length:=by unfold UB;simp
theorem quc{x:Co}{l:List Un}{d:List Dc}{n k:Nat}(hk:k<l.length):(UB x l d n).getD k 0=TL x l d k n:=by
 unfold UB;rw[gdqA,List.getElem?_map,List.getElem?_range hk];rfl
theorem qBu(x:Co)(l:List Un)(d:List Dc):UB x l d 0=List.replicate l.length (-1):=by
 unfold UB;refine List.ext_getElem (by simp) (λi h1 h2=> ?_);simp[TL]
theorem qle{x:Co}{l:List Un}{d:List Dc}{n k:Nat}(hk:k<l.length)(he:SC x l (d.getD n default)=k):UB x l d (n+1)=(UB x l d n).set k (n:Int):=by
 unfold UB;refine List.ext_getElem (by simp) (λi h1 h2=> ?_);rw[List.getElem_set];simp only[List.getElem_map,List.getElem_range]
 by_cases g:k=i
 ·subst g;rw[ipo rfl];unfold TL;rw[ipo he]
 ·rw[ine g]
  conv=>lhs;unfold TL
  rw[ine (by rw[he];omega)]
theorem qBF{x:Co}{l:List Un}{d:List Dc}{i:Nat}(hi:i<d.length):(plG x l d d.length).getD i 0=SC x l (d.getD i default):=by
 unfold plG;rw[List.take_length,gdqA,List.getElem?_map,zC hi,gdqA,zC hi];rfl
structure EsS where
 k:Nat
 vb:Nat
 O7:AObj
 O8:AObj
 O9:AObj
 O10:AObj
 O11:AObj
 O12:AObj
def rwK(x:Co)(l:List Un)(d:List Dc)(s k:Nat):List Rw:=if k<=l.length then rwL x l d s k else rwA x l d s
def nxT(x:Co)(l:List Un)(k:Nat):Nat:=if k<=l.length then jg l k else x.col.length
theorem qdg{v n:Nat}{L:List Wd}{ty:TypeId}{fz:Nat->Bool}{h:wh}{d:Nat}(hn:n=L.length):VLe (qeO (some (zf v ty (jN L))) v 7 0 n (rei fz h (d+1))) (jd L):=by
 subst hn;unfold zf;split
 ·rename_i e
  have:L= []:=by
   cases L with
   |nil=>rfl
   |cons a r=>exact absurd e (by simp[jN,wdC])
  subst this;rw[slOf_emp,ipo rfl];exact zg
 ·rw[slOf_mem,ipo ⟨rfl,by rw[qg2];omega⟩];refine VLe.sl_eq rfl (λi hi=> ?_);simp only[Nat.zero_add];rw[qg1 hi];rfl
theorem qB2{x:Co}{l:List Un}{d:List Dc}{s:Nat}: ∀ {j k:Nat},k<=j->(rwL x l d s k).length<=(rwL x l d s j).length:=by
 intro j
 induction j with
 |zero=>
  intro k h;obtain rfl:k=0:=by omega
  exact nlr _
 |succ j ih=>
  intro k h
  by_cases e:k=j+1
  ·subst e;exact nlr _
  ·refine Nat.le_trans (ih (show k<=j by omega)) ?_
   conv=>rhs;unfold rwL
   rw[lap];omega
theorem qmm{x:Co}{l:List Un}{d:List Dc}{s k:Nat}(h:k<=l.length):(rwL x l d s k).length<=(rwA x l d s).length:=by
 refine Nat.le_trans (qB2 h) ?_;unfold rwA;rw[lap];omega
theorem quI{x:Co}{l:List Un}(ho:CoOk x)(hus:UT x l=true){k:Nat}(hk:k<l.length){o:Dc}(hE:qbY x l o=0): ∀p∈qhV x l k o,PcF p:=by
 obtain⟨a1,a2,a3,a4,_⟩:=kn hus hk;obtain⟨p1,p2,p3,p4,p5,p6⟩:=Sv hE;intro p hp;unfold qhV at hp;split at hp
 ·have:=(qbJ p4).2.1
  exact S7 ho this om p hp
 ·split at hp
  ·rename_i g;obtain⟨r1,r2,r3,r4⟩:=qga p6 g;exact qr4 r2 p hp
  ·cases hp
theorem quJ{x:Co}{l:List Un}{d:List Dc}{s:Nat}(ho:CoOk x)(hus:UT x l=true)(hs:s<x.sig.length)(hpl: ∀i,i<d.length->qbY x l (d.getD i default)=0){k:Nat}(hk:k<l.length): ∀r∈rwU x l d s k,PcF r.p:=by
 obtain⟨a1,a2,a3,a4,_⟩:=kn hus hk;intro r hr;unfold rwU at hr;split at hr
 ·exact S7 ho hs om _ (zT.1 hr).1
 ·rename_i g
  have:=UA x l d k d.length
  exact quI ho hus hk (hpl _ om) _ (zT.1 hr).1
theorem qfl{x:Co}{l:List Un}{d:List Dc}{s:Nat}(ho:CoOk x)(hus:UT x l=true)(hs:s<x.sig.length)(hpl: ∀i,i<d.length->qbY x l (d.getD i default)=0): ∀ {k:Nat},k<=l.length-> ∀r∈rwL x l d s k,PcF r.p:=by
 intro k
 induction k with
 |zero=>intro _ r hr;cases hr
 |succ k ih=>
  intro hk r hr;obtain⟨a1,a2,a3,a4,_⟩:=kn hus (show k<l.length by omega);have a5:=qek hus (show k<l.length by omega);unfold rwL at hr;rcases List.mem_append.1 hr with hr|hr
  ·exact ih om r hr
  ·rcases List.mem_append.1 hr with hr|hr
   ·exact S7 ho hs om _ (zT.1 hr).1
   ·exact quJ ho hus hs hpl om r hr
theorem qHi{hh:wh}{j k v w:Nat}(n:Nat)(a:Int)(cs:wi)(hj:qq j hh=some (.mem v 3 (.int .i64 a::cs)))(hk:qq k hh=some (.emp w))(h0:0<n)(hl:n<=1000000000):
  ACalls Tryz.prog 79 [.osl j v 1 0 1,.int .i64 (n:Int)] hh (.osl k (w+1) 1 0 n) (qr k (qr j hh (.emp (v+1))) (.mem (w+1) 3 (qL (List.replicate n a)))):=by
 have hne:j≠k:=λe=>by subst e;rw[hj]at hk;cases hk
 have hs:qK hh j=true:=by unfold qK;rw[hj]
 have e1:qbW [j] hh=qr j hh (.emp (v+1)):=by show qr j hh (.emp (qn (qq j hh)+1))=_;rw[hj];rfl
 have hk1:qq k (qr j hh (.emp (v+1)))=some (.emp w):=by rw[qM (λe=>hne e.symm)];exact hk
 refine ACalls.frzd [j] (by show (qK hh j&&true)=true;rw[hs];rfl) ?_;rw[e1];have h1:=qHj a n (qr j hh (.emp (v+1))) k (by unfold qK;rw[hk1]) h0 hl;rw[hk1]at h1;refine h1.le ⟨?_,qi,trivial⟩ (qi);have hc:=qJ hj;have e: [j].contains j=true:=by simp
 simp only[go_sem,e,if_true,hc];rw[hj,slOf_mem,ipo ⟨rfl,by simp⟩];refine VLe.sl_eq rfl (λi hi=> ?_);obtain rfl:i=0:=by omega
 rfl
theorem qGF(x:Co)(l:List Un)(d:List Dc)(s:Int)(h:wh)(hz:UW x)(hu:qaH l)(hp:kv SG h)(hg:jj h frmN frmC)(hl0:l≠ [])(hd:d.length<=1000000)(ht: ∀o∈d,o.txt.length<=1000)(hN0:vaE x l=0->(rwA x l d s.toNat).length<=1000000000):
  ACalls Tryz.prog 25 [.agg (coC x),zn l,jO d,.int .i64 s] h (.tup [jd (esR x l d s),.int .i64 (esE x l d s)]) h:=by
 have c1:=λl'=>qsV x l (h++l') hz hu (hp.app l')
 have zu: ∀g l,valL g .len [zn l]= .int .i64 l.length:=λ_ _=>rfl
 have zv: ∀g l,okL g .len [zn l]=True:=λ_ _=>eqt trivial
 have zu1: ∀g l,valL g .len [strs l]= .int .i64 l.length:=λ_ _=>rfl
 have zv1: ∀g l,okL g .len [strs l]=True:=λ_ _=>eqt trivial
 have hE:esE x l d s=(if vaE x l≠0 then vaE x l else if s<0∨(x.sig.length:Int)<=s then 2 else if qad x l d≠0 then qad x l d else if 1024<(rwA x l d s.toNat).length then 4 else 0):=rfl;unfold esR
 by_cases g:vaE x l=0
 case neg=>
  have k1:(vaE x l=0)=False:=eqf g;rw[ipo g]at hE;rw[hE,ine g];unfold coC at c1;refine acO T9 ?_;simp (disch:=omega) only[qeL,coC,go_sem]
  repeat' first|(refine cA (c1 _) flk ?_;simp (disch:=omega) only[k1,go_sem])|(apply qa;exact rvk;simp only[go_sem])
  exact VLe.tup ⟨zg,qi,trivial⟩
 rw[ine (by simpa using g)]at hE;have hN:=hN0 g;simp only[g]at c1;obtain⟨hca,hus,hcv⟩:=qeF g;have ho:=SV hca
 by_cases g2:s<0
 ·have k2:(s<0)=True:=eqt g2;rw[ipo (.inl g2)]at hE;rw[hE,ine (by decide)];unfold coC at c1;refine acO T9 ?_;simp (disch:=omega) only[qeL,coC,go_sem]
  repeat' first|(refine cA (c1 _) flk ?_;simp (disch:=omega) only[k2,go_sem])|(apply qa;exact rvk;simp only[go_sem])
  exact VLe.tup ⟨zg,qi,trivial⟩
 have k2:(s<0)=False:=eqf g2
 by_cases g3:(x.sig.length:Int)<=s
 ·have k3:((x.sig.length:Int)<=s)=True:=eqt g3;rw[ipo (.inr g3)]at hE;rw[hE,ine (by decide)];unfold coC at c1;refine acO T9 ?_;simp (disch:=omega) only[qeL,coC,go_sem]
  repeat' first|(refine cA (c1 _) flk ?_;simp (disch:=omega) only[k2,k3,zu1,zv1,go_sem])|(apply qa;exact rvk;simp only[go_sem])
  exact VLe.tup ⟨zg,qi,trivial⟩
 have k3:((x.sig.length:Int)<=s)=False:=eqf g3;rw[ine (λe=>e.elim g2 g3)]at hE;have c2:=λl'=>qE3 x l d (h++l') hz hu (hp.app l') hg.app hca hd ht
 unfold qBI at c2
 by_cases g4:qad x l d=0
 case neg=>
  have k4:(qad x l d=0)=False:=eqf g4;simp only[ine g4]at c2;rw[ipo g4]at hE;rw[hE,ine g4];unfold coC at c1 c2;refine acO T9 ?_;simp (disch:=omega) only[qeL,coC,go_sem]
  repeat' first|((first|refine cA (c1 _) ?_ ?_|refine cA (c2 _) ?_ ?_);exact flk;simp (disch:=omega) only[k2,k3,k4,zu1,zv1,go_sem])|(apply qa;exact rvk;simp only[go_sem])|with_reducible apply aiA|exact clz|fail
  exact VLe.tup ⟨zg,qi,trivial⟩
 rw[ine (by simpa using g4)]at hE;simp only[g4,if_true]at c2;rw[hE];unfold coC at c1 c2;refine acO T9 ?_;simp (disch:=omega) only[qeL,coC,go_sem]
 repeat' first|((first|refine cA (c1 _) ?_ ?_|refine cA (c2 _) ?_ ?_);exact flk;simp (disch:=omega) only[k2,k3,zu1,zv1,zu,zv,go_sem])|with_reducible apply aiA|exact clz|fail
 have hlp:0<l.length:=List.length_pos_iff.2 hl0;refine qv (qHi (j:=h.length+2) (k:=h.length+13) (w:=0) l.length (-1) (List.drop 1 (ja [.int .i64 0] 1)) ?j1 ?j2 hlp hu.n) (by exact flk) ?_
 case j1=>simp only[go_sem]
 case j2=>simp only[go_sem]
 have zi: ∀g l,valL g .len [qw l]= .int .i64 l.length:=λ_ _=>rfl
 have zj: ∀g l,okL g .len [qw l]=True:=λ_ _=>eqt trivial
 have ePL:(plG x l d d.length).length=d.length:=by unfold plG;rw[List.length_map,List.take_length]
 simp (disch:=omega) only[zi,zj,ePL,go_sem];rw[<-qBu x l d];have hpl: ∀i,i<d.length->qbY x l (d.getD i default)=0:=by
  have:=g4
  unfold qad at this;split at this
  ·cases this
  ·intro i hi;exact jF.1 this i hi
 refine qt (T:=λi:Nat=>zw 154 [(1,zn l),(2,jO d),(3,.int .i64 s),(4,.op h.length 1 0),(13,.osl (h.length+13) 1 1 0 l.length),(55,.sl d.length λi=> [.int .i64 ((plG x l d d.length).getD i 0)]),(56,.int .i64 d.length),(57,.int .i64 i)])
  (H:=λi=>h++ [.mem 1 26 [.str x.sec,strs x.sig,qm x.tok,qo x.col],.emp 1,.emp 2,.emp 0,.emp 0,.emp 0,.emp 0,.emp 0,.emp 0,.emp 0,.emp 0,.emp 0,.emp 0,.mem 1 3 (qL (UB x l d i)),.emp 0,.emp 0])
  (inv:=λi=>i<=d.length) (m:=λi=>d.length-i) 0 (nzl _) (Wk.temps ?_) ?_
 ·(simp only[go_sem,qf,qc,qb,qe];try (repeat' first|(with_reducible apply aiA)|(apply qg;omega)|(apply qd;rfl)|exact qi))
  have eI:qw (plG x l d d.length)= .sl d.length λi=> [.int .i64 ((plG x l d d.length).getD i 0)]:=by unfold qw;rw[ePL]
  rw[eI];exact qi
 rintro i i1 K hK;have hll:=qgr x l d i;have hlc:=zL (UB x l d i)
 by_cases hi:i<d.length
 ·have q1:((i:Int)<d.length)=True:=wj;have q2:(0<=(i:Int))=True:=wj;have e0:=hpl i hi;obtain⟨_,_,_,_,p5,_⟩:=Sv e0;obtain⟨k,hk⟩: ∃k:Nat,SC x l (d.getD i default)=k:=⟨(SC x l (d.getD i default)).toNat,om⟩
  have hkl:k<l.length:=by
   have:=(U1 l (Sj x (zU x (d.getD i default).sig).toNat (d.getD i default).tok)).2
   have h2:fnU l (Sj x (zU x (d.getD i default).sig).toNat (d.getD i default).tok)=k:=hk;omega
  have q3:((k:Int)<l.length)=True:=wj;have q4:(0<=(k:Int))=True:=wj;have eA:=qBF (x:=x) (l:=l) hi;rw[hk]at eA;have hst:=qle (n:=i) hkl hk;simp (disch:=omega) only[q1,q2,q3,q4,eA,hlc,hll,go_sem]
  repeat' first|with_reducible apply aiA|exact clz|fail
  have eB:List.take k (qL (UB x l d i))++ [AV.int .i64 (i:Int)]++List.drop (k+1) (qL (UB x l d i))=qL (UB x l d (i+1)):=by
   rw[hst];unfold qL;rw[List.set_eq_take_append_cons_drop,ipo (by rw[hll];exact hkl)];simp[List.map_append,List.map_take,List.map_drop]
  rw[eB];refine hK _ _ (i+1) hi om (Wk.temps ?_)
  (simp only[go_sem,qf,qc,qb,qe];try exact we)
 ·have q1:((i:Int)<d.length)=False:=wm;obtain rfl:i=d.length:=by omega
  simp (disch:=omega) only[q1,go_sem];refine⟨_,_,Wk.ownNil (j:=h.length+3) (i:=0) (k:=h.length+15) (v:=1) (ty:=29) (cs:= [.nl]) (ve:=0) (sz:=7) ?m1 rfl ?m2,?_⟩
  case m1=>simp only[go_sem]
  case m2=>simp only[go_sem]
  have s1:=λh=>qmO h l
  have eP:=qa4 l;simp (disch:=omega) only[List.set_cons_zero,go_sem];have hun:=hu.n;have bne5:(h.length+14 !=h.length+5)=true:=by simp
  have zc: ∀g l,valL g .len [qo l]= .int .i64 l.length:=λ_ _=>rfl
  have zd: ∀g l,okL g .len [qo l]=True:=λ_ _=>eqt trivial
  refine ke ?T ?H ?h1 ?h2
  case h1=>
   simp (disch:=omega) only[List.set_cons_zero,zc,zd,go_sem]
   repeat' first|(with_reducible apply aiA)|(refine qv (qGA l _ (h.length+14) (by simp only[go_sem]) hl0 hu.n) (by exact flk) ?_;simp (disch:=omega) only[List.set_cons_zero,eP,zc,zd,go_sem])
   all_goals first
    |omega
    |rfl
    |exact bne5
  case h2=>
  simp (disch:=omega) only[go_sem];obtain⟨S,hS⟩: ∃S:Nat,s=S:=⟨s.toNat,om⟩
  subst hS;rw[itn]at hN ⊢;have hSl:S<x.sig.length:=by omega
  have eTk:List.take (l.length*3) (TN l)=TN l:=ltl om;rw[eTk];obtain⟨MC,hMC⟩:=wg (TN l++ [AV.int .i64 x.col.length,.int .i64 x.col.length,.nl])
  have hMl:MC.length=(l.length+1)*3:=by rw[hMC];simp[eP];omega
  have eM1: ∀k,k<l.length->List.take 3 (List.drop (k*3) MC)=unC (l.getD k default):=λk hk=>by
   rw[hMC,List.drop_append_of_le_length om,List.take_append_of_le_length (by rw[List.length_drop];omega)];exact qgY hk
  have eM2:List.take 3 (List.drop (l.length*3) MC)= [AV.int .i64 x.col.length,.int .i64 x.col.length,.nl]:=by
   rw[hMC,List.drop_append,List.drop_eq_nil_of_le om,lna,eP,Nat.sub_self];rfl
  rw[<-hMC];obtain⟨O5,hO5⟩:=wg (AObj.mem 1 64 (AV.int .i64 x.col.length:: .int .i64 x.col.length:: .nl::List.drop 3 (ja [.int .i64 0,.int .i64 0,.nl] 1)))
  rw[<-hO5];obtain⟨LST,hLST⟩: ∃L,L=AObj.mem 1 3 (qL (UB x l d d.length)):=⟨_,rfl⟩
  have hll:=qgr x l d d.length;have hlc:=zL (UB x l d d.length);obtain⟨X0,hX0⟩:=wg (AObj.mem 1 26 [.str x.sec,strs x.sig,qm x.tok,qo x.col])
  have lX0: ∀n,lowO n X0:=by
   intro n;rw[hX0];intro c hc;simp at hc;rcases hc with rfl|rfl|rfl|rfl<;>rfl
  refine qt (T:=λi:EsS=>zw 154 [(1,zn l),(2,jO d),(3,.int .i64 (S:Int)),(4,.op h.length 1 0),(13,.osl (h.length+13) 1 1 0 l.length),(16,.op (h.length+3) 1 0),(17,.op (h.length+4) 1 0),(18,.int .i64 (nxT x l i.k:Int)),(78,.osl (h.length+14) 2 3 0 (l.length+1)),(79,.int .i64 ((l.length+1:Nat):Int)),(80,.int .i64 i.k)])
   (H:=λi=>h++ [.mem 1 26 [.str x.sec,strs x.sig,qm x.tok,qo x.col],.emp 1,.emp 2,.mem 1 29 [.osl (h.length+15) i.vb 7 0 (rwK x l d S i.k).length],.mem 1 121 [.fn (.func 80) [] [.op (h.length+3) 1 0]],O5,.emp 0,i.O7,i.O8,i.O9,i.O10,i.O11,i.O12,.mem 1 3 (qL (UB x l d d.length)),.mem 2 64 MC,zf i.vb 36 (jN (bsW (rwK x l d S i.k)))])
   (inv:=λi=>i.k<=l.length+1∧ ∀O∈ [i.O7,i.O8,i.O9,i.O10,i.O11,i.O12],qK [O] 0=true∧ ∀n,lowO n O) (m:=λi=>l.length+1-i.k) ⟨0,0,.emp 0,.emp 0,.emp 0,.emp 0,.emp 0,.emp 0⟩ ⟨nzl _,λO hO=>by
    simp at hO;subst hO;exact⟨rfl,λ_=>trivial⟩⟩ (Wk.temps ?_) ?_
  ·(simp only[go_sem,qf,qc,qb,qe];try (repeat' first|(with_reducible apply aiA)|(apply qg;omega)|(apply qd;rfl)|exact qi))
   done
  rintro⟨k,vb,O7,O8,O9,O10,O11,O12⟩ ⟨i1,i2⟩ K hK;simp only at i1 i2 hK;obtain⟨s7,l7⟩:=i2 O7 (by simp);obtain⟨s8,l8⟩:=i2 O8 (by simp);obtain⟨s9,l9⟩:=i2 O9 (by simp);obtain⟨s10,l10⟩:=i2 O10 (by simp);obtain⟨s11,l11⟩:=i2 O11 (by simp);obtain⟨s12,l12⟩:=i2 O12 (by simp);have s7': ∀m,qK (O7::m) 0=true:=λ_=>s7
  have s8': ∀m,qK (O8::m) 0=true:=λ_=>s8
  by_cases hk:k<=l.length
  case neg=>
   have q1:((k:Int)<((l.length+1:Nat):Int))=False:=wm;have eR:rwK x l d S k=rwA x l d S:=by unfold rwK;rw[ine hk]
   rw[eR]
   by_cases g5:1024<(rwA x l d S).length
   ·have q5:((1024:Int)<(rwA x l d S).length)=True:=wj;simp only[ipo g5];simp (disch:=omega) only[q1,q5,go_sem]
    repeat' first|(apply qa;exact rvk;simp only[go_sem])|with_reducible apply aiA|exact clz|fail
    exact VLe.tup ⟨zg,qi,trivial⟩
   ·have q5:((1024:Int)<(rwA x l d S).length)=False:=wm;simp only[ine g5];simp (disch:=omega) only[q1,q5,go_sem]
    repeat' first|(apply qa;exact rvk;simp only[go_sem])|with_reducible apply aiA|exact clz|fail
    exact VLe.tup ⟨qdg (jK _).symm,qi,trivial⟩
  have q1:((k:Int)<((l.length+1:Nat):Int))=True:=wj;have q2:(0<=(k:Int))=True:=wj;have q3:(k*3+3<=MC.length)=True:=wj;have eR:rwK x l d S k=rwL x l d S k:=by unfold rwK;rw[ipo hk]
  have eN:nxT x l k=jg l k:=by unfold nxT;rw[ipo hk]
  rw[eR,eN];obtain⟨f,t',RV,eM,a5,a6,lRV,hA,hB⟩: ∃(f t':Nat) (RV:AV),List.take 3 (List.drop (k*3) MC)= [.int .i64 (f:Int),.int .i64 (t':Int),RV]∧jg l k<=f∧f<=x.col.length∧(∀n,qZ n RV=true)∧(k<l.length->f=frN l k∧t'=toN l k∧RV=jX (l.getD k default).rds)∧(k=l.length->f=x.col.length∧t'=x.col.length):=by
   by_cases hkl:k<l.length
   ·obtain⟨a1,a2,a3,a4,_⟩:=kn hus hkl;have eM:=eM1 k hkl;unfold unC at eM;rw[a1,a2]at eM;exact⟨frN l k,toN l k,_,eM,qek hus hkl,om,λ_=>rfl,λ_=>⟨rfl,rfl,rfl⟩,λe=>by omega⟩
   ·obtain rfl:k=l.length:=by omega
    exact⟨x.col.length,x.col.length,.nl,eM2,qbG hus (nlr _),nlr _,λ_=>rfl,λe=>by omega,λ_=>⟨rfl,rfl⟩⟩
  have c3:=λh=>qCj x (jg l k) f S h
  have hit:=itS x S (jg l k) f hz ho hSl a6 a5;have hpF:=S7 ho hSl (f:=jg l k) (d:=f-jg l k) om;obtain⟨ps,hps⟩:=wg (spk x S (jg l k) (f-jg l k))
  have hxl:(spX x S (jg l k) (f-jg l k))=ps.map λp=> [.agg (pcC p)]:=by unfold spX;rw[hps]
  rw[hxl]at hit;rw[<-hps]at hpF;unfold coC at c3 hit;simp (disch:=omega) only[q1,q2,q3,eM,s7',s8',go_sem]
  repeat' first|(refine cA (c3 _) flk ?_;simp (disch:=omega) only[go_sem])
  obtain⟨L0,hL0⟩:=wg (rwL x l d S k)
  have hLF: ∀r∈L0,PcF r.p:=by rw[hL0];exact qfl ho hus hSl hpl hk
  have hLn:(L0++rwM ps (-1) (-1)).length<=1000000000:=by
   refine Nat.le_trans ?_ hN
   by_cases hkl:k<l.length
   ·obtain⟨b1,_⟩:=hA hkl;refine Nat.le_trans ?_ (qmm (show k+1<=l.length by omega));rw[hL0,hps,b1]
    conv=>rhs;unfold rwL
    rw[lap,lap,lap];show _<=_+((rwM _ _ _).length+_);omega
   ·obtain⟨b1,_⟩:=hB om;have hke:k=l.length:=by omega
    rw[hL0,hps,b1,hke];exact nlr _
  rw[<-hL0];obtain⟨P7,hP7⟩:=wg (AObj.mem (qn (some O7)+1) 3 [.int .i64 (k:Int)])
  obtain⟨P8,hP8⟩:=wg (AObj.mem (qn (some O8)+1) 64 [.int .i64 (f:Int),.int .i64 (t':Int),RV])
  have hP7l:qK [P7] 0=true∧ ∀n,lowO n P7:=by
   rw[hP7];refine⟨rfl,λn c hc=> ?_⟩;rw[List.mem_singleton]at hc;subst hc;rfl
  have hP8l:qK [P8] 0=true∧ ∀n,lowO n P8:=by
   rw[hP8];refine⟨rfl,λn c hc=> ?_⟩;simp only[List.mem_cons,List.not_mem_nil,or_false]at hc;rcases hc with rfl|rfl|rfl
   ·rfl
   ·rfl
   ·exact lRV n
  have cP7: ∀m,cellsOf (P7::m) 0 (qn (some O7)+1)=some [.int .i64 (k:Int)]:=λm=>by rw[hP7];simp only[go_sem]
  rw[<-hP7,<-hP8];have lP: ∀L:List Rw,∀v n,lowO n (zf v 36 (jN (bsW L))):=λL v n=>jc (qa5 _ n)
  have hLow: ∀(L M:List Rw) (v w:Nat) O A,(∀n,lowO n A)->LowI (h++ [.mem 1 26 [.str x.sec,strs x.sig,qm x.tok,qo x.col],.emp 1,.emp 2,.mem 1 29 [.osl (h.length+15) w 7 0 M.length],.mem 1 121 [.fn (.func 80) [] [.op (h.length+3) 1 0]],O5,.emp 0,P7,P8,O,O10,O11,O12,.mem 1 3 (qL (UB x l d d.length)),.mem 2 64 MC,zf w 36 (jN (bsW M))])
    (h++ [.mem 1 26 [.str x.sec,strs x.sig,qm x.tok,qo x.col],.emp 1,.emp 2,.mem 1 29 [.osl (h.length+15) v 7 0 L.length],.mem 1 121 [.fn (.func 80) [] [.op (h.length+3) 1 0]],O5,.emp 0,P7,P8,A,O10,O11,O12,.mem 1 3 (qL (UB x l d d.length)),.mem 2 64 MC,zf v 36 (jN (bsW L))]):=λL M v w O A lA=>by
   refine⟨by simp,λo ho=> ?_⟩;rcases List.mem_append.1 ho with h1|h1
   ·exact .inl (List.mem_append_left _ h1)
   ·simp only[List.mem_cons,List.not_mem_nil,or_false]at h1;rcases h1 with rfl|rfl|rfl|rfl|rfl|rfl|rfl|rfl|rfl|rfl|rfl|rfl|rfl|rfl|rfl|rfl
    ·left;simp
    ·left;simp
    ·left;simp
    ·right;refine⟨λc hc=> ?_,λc hc=> ?_⟩<;>
     ·rw[List.mem_singleton]at hc;subst hc;simp[qZ]
      try omega
    ·left;simp
    ·left;simp
    ·left;simp
    ·left;simp
    ·left;simp
    ·right;exact⟨lA _,lA _⟩
    ·left;simp
    ·left;simp
    ·left;simp
    ·left;simp
    ·left;simp
    ·right;exact⟨lP _ _ _,lP _ _ _⟩
  refine zB hit (λa ha=> ?_)
   (S:=λi hh=> ∃A,qK [A] 0=true∧(∀n,lowO n A)∧hh=h++ [.mem 1 26 [.str x.sec,strs x.sig,qm x.tok,qo x.col],.emp 1,.emp 2,.mem 1 29 [.osl (h.length+15) (vb+i) 7 0 (L0++rwM (ps.take i) (-1) (-1)).length],.mem 1 121 [.fn (.func 80) [] [.op (h.length+3) 1 0]],O5,.emp 0,P7,P8,A,O10,O11,O12,.mem 1 3 (qL (UB x l d d.length)),.mem 2 64 MC,zf (vb+i) 36 (jN (bsW (L0++rwM (ps.take i) (-1) (-1))))]) (E:=λ_ _=>False) ?_ ?_ ?_ ?_ ?_ ?_ ?_
  ·obtain⟨c,_,rfl⟩:=List.mem_map.1 ha;rfl
  ·rintro i hh ⟨A,_,lA,rfl⟩;exact hLow _ _ _ _ _ _ lA
  ·intro s hh hf;exact hf.elim
  ·exact⟨O9,s9,l9,by simp[rwM]⟩
  ·simp[qZ,qZ.lowVs]
   repeat' apply aiA
   all_goals first|rfl|omega|exact lRV _
  ·rintro i hh tl LI TS hi ⟨A,sA,lA,rfl⟩ hlen K1 K2 hK1 hN1 hR1 hX1;have hi':i<ps.length:=by rw[List.length_map]at hi;exact hi
   rw[List.getElem_map];have sA': ∀m,qK (A::m) 0=true:=λ_=>sA
   have hS:L0++rwM (ps.take (i+1)) (-1) (-1)=(L0++rwM (ps.take i) (-1) (-1))++ [⟨ps.getD i default,-1,-1⟩]:=by
    unfold rwM;rw[List.take_add_one,zC hi',List.map_append,gdqA,zC hi',List.append_assoc];rfl
   have eG:ps[i]=ps.getD i default:=by rw[gdqA,zC hi'];rfl
   rw[eG];have hpm:ps.getD i default∈ps:=zI hi';obtain⟨p,hp'⟩:=wg (ps.getD i default)
   rw[<-hp']at hS hpm ⊢;obtain⟨M,hM⟩:=wg (L0++rwM (ps.take i) (-1) (-1))
   have hMF: ∀r∈M,PcF r.p:=λr hr=>by
    rw[hM]at hr;rcases List.mem_append.1 hr with hr|hr
    ·exact hLF r hr
    ·exact hpF _ (List.mem_of_mem_take (zT.1 hr).1)
   have hMn:M.length<=1000000000:=by
    rw[hM,lap,jR,List.length_take];rw[lap,jR]at hLn;omega
   rw[<-hM]at hS ⊢;simp only[km,List.append_assoc,lca,lna];simp (disch:=omega) only[sA',pcC,tkC,go_sem];refine hK1 _ _ (h++ [.mem 1 26 [.str x.sec,strs x.sig,qm x.tok,qo x.col],.emp 1,.emp 2,.mem 1 29 [.osl (h.length+15) (vb+i) 7 0 M.length],.mem 1 121 [.fn (.func 80) [] [.op (h.length+3) 1 0]],O5,.emp 0,P7,P8,(.mem (qn (some A)+1) 120 (pcC p)),O10,O11,O12,.mem 1 3 (qL (UB x l d d.length)),.mem 2 64 MC,zf (vb+i) 36 (jN (bsW M))]) ?_ ?_ ?_
   ·simp[pcC,tkC]
   ·simp
   ·simp only[List.append_assoc,lca,lna];simp (disch:=omega) only[pcC,tkC,go_sem]
    repeat' first|with_reducible apply aiA|exact clz|fail
    refine qT (qxk (a:=h.length+3) (b:=h.length+15) (c:=h.length) (va:=1) (vb:=vb+i) (Z:= .mem 1 26 [.str x.sec,strs x.sig,qm x.tok,qo x.col]) ⟨by simp,by simp,by simp,om,om,om⟩ M p (-1) (-1) (by simp only[go_sem]) (by simp only[go_sem]) (by simp only[go_sem]) (by rw[<-hX0];exact lX0) (hpF p hpm) hMn hMF) ?_;simp (disch:=omega) only[go_sem];refine hN1 _ _ (h++ [.mem 1 26 [.str x.sec,strs x.sig,qm x.tok,qo x.col],.emp 1,.emp 2,.mem 1 29 [.osl (h.length+15) (vb+(i+1)) 7 0 (M++ [(⟨p,-1,-1⟩:Rw)]).length],.mem 1 121 [.fn (.func 80) [] [.op (h.length+3) 1 0]],O5,.emp 0,P7,P8,(.mem (qn (some A)+1) 120 (pcC p)),O10,O11,O12,.mem 1 3 (qL (UB x l d d.length)),.mem 2 64 MC,zf (vb+(i+1)) 36 (jN (bsW (M++ [(⟨p,-1,-1⟩:Rw)])))]) ?_ ?_ ⟨_,rfl,?_,by rw[hS]⟩
    ·simp[pcC,tkC,Nat.add_assoc]
    ·simp
    ·intro n c hc;simp[pcC,tkC]at hc;rcases hc with rfl|rfl|rfl|rfl|rfl|rfl|rfl<;>rfl
  ·rintro hh ⟨A,sA,lA,rfl⟩;rw[List.length_map,List.take_length];obtain⟨L1,hL1⟩:=wg (L0++rwM ps (-1) (-1))
   rw[<-hL1]
   by_cases hkl:k<l.length
   case neg=>
    have hke:k=l.length:=by omega
    obtain⟨b1,b2⟩:=hB hke;have q4:((k:Int)=l.length)=True:=wj;rw[hP7,hP8];simp (disch:=omega) only[q4,zu,zv,go_sem]
    repeat' first|with_reducible apply aiA|exact clz|fail
    rw[<-hP7,<-hP8];have e1:rwK x l d S (k+1)=L1:=by
     unfold rwK;rw[ine om,hL1,hL0,hps,b1,hke];rfl
    have e2:nxT x l (k+1)=t':=by unfold nxT;rw[ine om,b2]
    refine hK _ _ ⟨k+1,vb+ps.length,P7,P8,A,O10,O11,O12⟩ ⟨by simp only;omega,λO hO=> ?_⟩ (by simp only;omega) ?_
    ·simp only[List.mem_cons,List.not_mem_nil,or_false]at hO;rcases hO with rfl|rfl|rfl|rfl|rfl|rfl
     ·exact hP7l
     ·exact hP8l
     ·exact⟨sA,lA⟩
     ·exact⟨s10,l10⟩
     ·exact⟨s11,l11⟩
     ·exact⟨s12,l12⟩
    ·simp only[e1,e2];refine Wk.temps ?_
     (simp only[go_sem,qf,qc,qb,qe];try exact we)
   obtain⟨b1,b2,b3⟩:=hA hkl;have q4:((k:Int)=l.length)=False:=wm;have q5:((k:Int)<l.length)=True:=wj;have q6:(k<l.length)=True:=eqt hkl;have eLs:(qL (UB x l d d.length))[k]? =some (.int .i64 (TL x l d k d.length)):=by
    unfold qL
    have:=quc (x:=x) (d:=d) (n:=d.length) hkl
    rw[List.getElem?_map,zC (by rw[hll];exact hkl)];rw[gdqA,zC (by rw[hll];exact hkl)]at this;rw[<-this];rfl
   obtain⟨D,hD⟩:=wg (TL x l d k d.length)
   rw[<-hD]at eLs;rw[hP7,hP8]
   by_cases g6:D<0
   ·have q7:(D<0)=True:=eqt g6;have c4:=λh=>qCj x f t' S h
    unfold coC at c4;simp (disch:=omega) only[q2,q4,q5,q6,q7,hlc,hll,eLs,zu,zv,go_sem]
    repeat' first|(refine cA (c4 _) flk ?_;simp (disch:=omega) only[go_sem])|with_reducible apply aiA|exact clz|fail
    rw[<-hP7,<-hP8];obtain⟨A0,hA0⟩:=wg A
    rw[<-hA0];obtain⟨vc,hvc⟩:=wg (vb+ps.length)
    rw[<-hvc];obtain⟨_,_,a3,a4,_⟩:=kn hus hkl;have hit2:=itS x S f t' hz ho hSl om om;have hpF2:=S7 ho hSl (f:=f) (d:=t'-f) om;obtain⟨qs,hqs⟩:=wg (spk x S f (t'-f))
    have hxl2:(spX x S f (t'-f))=qs.map λp=> [.agg (pcC p)]:=by unfold spX;rw[hqs]
    rw[hxl2]at hit2;rw[<-hqs]at hpF2;unfold coC at hit2;have eR1:rwK x l d S (k+1)=L1++rwM qs (k:Int) (-1):=by
     unfold rwK;rw[ipo om];show rwL x l d S k++(rwC x S (jg l k) (frN l k)++rwU x l d S k)=_;unfold rwU;rw[ipo (by rw[<-hD];exact g6),hL1,hL0,hps,hqs,b1,b2,List.append_assoc];rfl
    have hLF2: ∀r∈L1,PcF r.p:=λr hr=>by
     rw[hL1]at hr;rcases List.mem_append.1 hr with hr|hr
     ·exact hLF r hr
     ·exact hpF _ (zT.1 hr).1
    have hLn2:(L1++rwM qs (k:Int) (-1)).length<=1000000000:=by
     rw[<-eR1];unfold rwK;rw[ipo om];exact Nat.le_trans (qmm (show k+1<=l.length by omega)) hN
    have hLow2: ∀(L M:List Rw) (v w:Nat) O A,(∀n,lowO n A)->LowI (h++ [.mem 1 26 [.str x.sec,strs x.sig,qm x.tok,qo x.col],.emp 1,.emp 2,.mem 1 29 [.osl (h.length+15) w 7 0 M.length],.mem 1 121 [.fn (.func 80) [] [.op (h.length+3) 1 0]],O5,.emp 0,P7,P8,A0,O,O11,O12,.mem 1 3 (qL (UB x l d d.length)),.mem 2 64 MC,zf w 36 (jN (bsW M))])
      (h++ [.mem 1 26 [.str x.sec,strs x.sig,qm x.tok,qo x.col],.emp 1,.emp 2,.mem 1 29 [.osl (h.length+15) v 7 0 L.length],.mem 1 121 [.fn (.func 80) [] [.op (h.length+3) 1 0]],O5,.emp 0,P7,P8,A0,A,O11,O12,.mem 1 3 (qL (UB x l d d.length)),.mem 2 64 MC,zf v 36 (jN (bsW L))]):=λL M v w O A lA=>by
     refine⟨by simp,λo ho=> ?_⟩;rcases List.mem_append.1 ho with h1|h1
     ·exact .inl (List.mem_append_left _ h1)
     ·simp only[List.mem_cons,List.not_mem_nil,or_false]at h1;rcases h1 with rfl|rfl|rfl|rfl|rfl|rfl|rfl|rfl|rfl|rfl|rfl|rfl|rfl|rfl|rfl|rfl
      ·left;simp
      ·left;simp
      ·left;simp
      ·right;refine⟨λc hc=> ?_,λc hc=> ?_⟩<;>
       ·rw[List.mem_singleton]at hc;subst hc;simp[qZ]
        try omega
      ·left;simp
      ·left;simp
      ·left;simp
      ·left;simp
      ·left;simp
      ·left;simp
      ·right;exact⟨lA _,lA _⟩
      ·left;simp
      ·left;simp
      ·left;simp
      ·left;simp
      ·right;exact⟨lP _ _ _,lP _ _ _⟩
    refine zB hit2 (λa ha=> ?_)
     (S:=λi hh=> ∃A,qK [A] 0=true∧(∀n,lowO n A)∧hh=h++ [.mem 1 26 [.str x.sec,strs x.sig,qm x.tok,qo x.col],.emp 1,.emp 2,.mem 1 29 [.osl (h.length+15) (vc+i) 7 0 (L1++rwM (qs.take i) (k:Int) (-1)).length],.mem 1 121 [.fn (.func 80) [] [.op (h.length+3) 1 0]],O5,.emp 0,P7,P8,A0,A,O11,O12,.mem 1 3 (qL (UB x l d d.length)),.mem 2 64 MC,zf (vc+i) 36 (jN (bsW (L1++rwM (qs.take i) (k:Int) (-1))))]) (E:=λ_ _=>False) ?_ ?_ ?_ ?_ ?_ ?_ ?_
    ·obtain⟨c,_,rfl⟩:=List.mem_map.1 ha;rfl
    ·rintro i hh ⟨A,_,lA,rfl⟩;exact hLow2 _ _ _ _ _ _ lA
    ·intro s hh hf;exact hf.elim
    ·exact⟨O10,s10,l10,by simp[rwM]⟩
    ·simp[qZ,qZ.lowVs]
     repeat' apply aiA
     all_goals first|rfl|omega|exact lRV _
    ·rintro i hh tl LI TS hi ⟨A,sA,lA,rfl⟩ hlen K1 K2 hK1 hN1 hR1 hX1;have hi':i<qs.length:=by rw[List.length_map]at hi;exact hi
     rw[List.getElem_map];have sA': ∀m,qK (A::m) 0=true:=λ_=>sA
     have hS:L1++rwM (qs.take (i+1)) (k:Int) (-1)=(L1++rwM (qs.take i) (k:Int) (-1))++ [⟨qs.getD i default,(k:Int),-1⟩]:=by
      unfold rwM;rw[List.take_add_one,zC hi',List.map_append,gdqA,zC hi',List.append_assoc];rfl
     have eG:qs[i]=qs.getD i default:=by rw[gdqA,zC hi'];rfl
     rw[eG];have hpm:qs.getD i default∈qs:=zI hi';obtain⟨p,hp'⟩:=wg (qs.getD i default)
     rw[<-hp']at hS hpm ⊢;obtain⟨M,hM⟩:=wg (L1++rwM (qs.take i) (k:Int) (-1))
     have hMF: ∀r∈M,PcF r.p:=λr hr=>by
      rw[hM]at hr;rcases List.mem_append.1 hr with hr|hr
      ·exact hLF2 r hr
      ·exact hpF2 _ (List.mem_of_mem_take (zT.1 hr).1)
     have hMn:M.length<=1000000000:=by
      rw[hM,lap,jR,List.length_take];rw[lap,jR]at hLn2;omega
     rw[<-hM]at hS ⊢;simp only[km,List.append_assoc,lca,lna];simp (disch:=omega) only[sA',pcC,tkC,go_sem];refine hK1 _ _ (h++ [.mem 1 26 [.str x.sec,strs x.sig,qm x.tok,qo x.col],.emp 1,.emp 2,.mem 1 29 [.osl (h.length+15) (vc+i) 7 0 M.length],.mem 1 121 [.fn (.func 80) [] [.op (h.length+3) 1 0]],O5,.emp 0,P7,P8,A0,(.mem (qn (some A)+1) 120 (pcC p)),O11,O12,.mem 1 3 (qL (UB x l d d.length)),.mem 2 64 MC,zf (vc+i) 36 (jN (bsW M))]) ?_ ?_ ?_
     ·simp[pcC,tkC]
     ·simp
     ·simp only[List.append_assoc,lca,lna];simp (disch:=omega) only[pcC,tkC,cP7,go_sem]
      repeat' first|with_reducible apply aiA|exact clz|fail
      refine qT (qxk (a:=h.length+3) (b:=h.length+15) (c:=h.length) (va:=1) (vb:=vc+i) (Z:= .mem 1 26 [.str x.sec,strs x.sig,qm x.tok,qo x.col]) ⟨by simp,by simp,by simp,om,om,om⟩ M p (k:Int) (-1) (by simp only[go_sem]) (by simp only[go_sem]) (by simp only[go_sem]) (by rw[<-hX0];exact lX0) (hpF2 p hpm) hMn hMF) ?_;simp (disch:=omega) only[go_sem];refine hN1 _ _ (h++ [.mem 1 26 [.str x.sec,strs x.sig,qm x.tok,qo x.col],.emp 1,.emp 2,.mem 1 29 [.osl (h.length+15) (vc+(i+1)) 7 0 (M++ [(⟨p,(k:Int),-1⟩:Rw)]).length],.mem 1 121 [.fn (.func 80) [] [.op (h.length+3) 1 0]],O5,.emp 0,P7,P8,A0,(.mem (qn (some A)+1) 120 (pcC p)),O11,O12,.mem 1 3 (qL (UB x l d d.length)),.mem 2 64 MC,zf (vc+(i+1)) 36 (jN (bsW (M++ [(⟨p,(k:Int),-1⟩:Rw)])))]) ?_ ?_ ⟨_,rfl,?_,by rw[hS]⟩
      ·simp[pcC,tkC,Nat.add_assoc]
      ·simp
      ·intro n c hc;simp[pcC,tkC]at hc;rcases hc with rfl|rfl|rfl|rfl|rfl|rfl|rfl<;>rfl
    ·rintro hh ⟨B,sB,lB,rfl⟩;rw[List.length_map,List.take_length];simp (disch:=omega) only[go_sem];have e2:nxT x l (k+1)=t':=by
      unfold nxT;rw[ipo om,b2];unfold jg;rw[ine om,Nat.add_sub_cancel]
     refine hK _ _ ⟨k+1,vc+qs.length,P7,P8,A0,B,O11,O12⟩ ⟨by simp only;omega,λO hO=> ?_⟩ (by simp only;omega) ?_
     ·simp only[List.mem_cons,List.not_mem_nil,or_false]at hO;rcases hO with rfl|rfl|rfl|rfl|rfl|rfl
      ·exact hP7l
      ·exact hP8l
      ·rw[hA0];exact⟨sA,lA⟩
      ·exact⟨sB,lB⟩
      ·exact⟨s11,l11⟩
      ·exact⟨s12,l12⟩
     ·simp only[eR1,e2];refine Wk.temps ?_
      (simp only[go_sem,qf,qc,qb,qe];try exact we)
    ·intro e hh hf;exact hf.elim
   ·have q7:(D<0)=False:=eqf g6;obtain⟨j,hj⟩: ∃j:Nat,D=j:=⟨D.toNat,om⟩
    have hjd:j<d.length:=by
     have:=(UA x l d k d.length).2
     omega
    rw[hj]at eLs hD q7;have q8:(0<=(j:Int))=True:=wj;have q9:((j:Int)<d.length)=True:=wj;have s11': ∀m,qK (O11::m) 0=true:=λ_=>s11
    have e0:=hpl j hjd;have eU:SC x l (d.getD j default)=k:=qld (n:=d.length) hD.symm;obtain⟨o,ho'⟩:=wg (d.getD j default)
    have eo:=ho'.symm;rw[eo]at e0 eU;have hot:o.txt.length<=1000:=ht o (by rw[ho'];exact zI hjd);obtain⟨p1,p2,p3,p4,p5,p6⟩:=Sv e0;have c5:=λh=>qG2 h
    have zp: ∀g l,valL g .len [qdI l]= .int .i64 l.length:=λ_ _=>rfl
    have zq: ∀g l,okL g .len [qdI l]=True:=λ_ _=>eqt trivial
    have k7:(0<=o.kind)=True:=wj;have k8:(o.kind<4)=True:=wj;obtain⟨_,_,a3,a4,_⟩:=kn hus hkl;obtain⟨fid,qs,eIx,c6,eqs,hpF2⟩: ∃(fid:Nat) (qs:List Pc),[AV.nilfn,AV.fn (.func 136) [] [],AV.fn (.func 138) [] [],AV.fn (.func 140) [] []][Int.toNat o.kind]?.getD AV.undef= .fn (.func fid) [] []∧(∀l',ACalls Tryz.prog fid [.agg [.str x.sec,strs x.sig,qm x.tok,qo x.col],.agg [.int .i64 (f:Int),.int .i64 (t':Int),RV],.agg [.int .i64 o.kind,.str o.sig,.int .i64 o.tok,.str o.txt]] (h++l') (qdI qs) (h++l'))∧qs=qhV x l k o∧ ∀p∈qs,PcF p:=by
     obtain⟨a1,a2,_⟩:=kn hus hkl;rcases (show o.kind=1∨o.kind=2∨o.kind=3 by omega)with g7|g7|g7
     ·obtain⟨S1,hS1⟩: ∃S1:Nat,zU x o.sig=S1:=⟨(zU x o.sig).toNat,by have:=(qbJ p4).1;omega⟩
      have hS1l:S1<x.sig.length:=by have:=(qbJ p4).2.1;omega
      refine⟨136,spk x S1 f (t'-f),by rw[g7];rfl,λl'=> ?_,?_,S7 ho hS1l om⟩
      ·have c6:=qGZ x (l.getD k default) o S1 f t' (h++l') hz ho hS1 hS1l (by rw[a1,b1]) (by rw[a2,b2]) om om;unfold coC unC dcC at c6;rw[a1,a2,<-b1,<-b2,<-b3]at c6;exact c6
      ·unfold qhV;rw[ipo g7,hS1,itn,b1,b2]
     ·obtain⟨r1,r2,r3,r4⟩:=qga p6 g7;refine⟨138,cjP (qbM o.txt) (f:Int),by rw[g7];rfl,λl'=> ?_,?_,qr4 r2⟩
      ·have c6:=qG0 x (l.getD k default) o (h++l') hot r4 r1 r2 hg.app;unfold coC unC dcC at c6;rw[a1,a2,<-b1,<-b2,<-b3]at c6;exact c6
      ·unfold qhV cjP;rw[ine (by rw[g7];decide),ipo g7,a1,b1]
     ·refine⟨140,[],by rw[g7];rfl,λl'=> ?_,?_,λp hp=>by cases hp⟩
      ·have c6:=qG1 x (l.getD k default) o (h++l');unfold coC unC dcC at c6;rw[a1,a2,<-b1,<-b2,<-b3]at c6;exact c6
      ·unfold qhV;rw[ine (by rw[g7];decide),ine (by rw[g7];decide)]
    simp (disch:=omega) only[q2,q4,q5,q6,q7,q8,q9,hlc,hll,eLs,zu,zv,jO,dcC,eo,s11',go_sem]
    repeat' first|with_reducible apply aiA|exact clz|fail
    refine ke ?Ta ?Ha ?h1 ?h2
    case h1=>
     simp (disch:=omega) only[go_sem]
     repeat' first|(refine cU (λ_=>c5 _) flk ?_;simp (disch:=omega) only[k7,go_sem])|with_reducible apply aiA
     all_goals first
      |omega
      |rfl
      |skip
     rw[eIx];refine qjS (c6 _) (by exact flk) ?_;simp (disch:=omega) only[zp,zq,go_sem]
     repeat' first|with_reducible apply aiA
     all_goals first
      |omega
      |rfl
      |skip
    case h2=>
    rw[<-hP7,<-hP8];obtain⟨P11,hP11⟩:=wg (AObj.mem (qn (some O11)+1) 43 [.int .i64 o.kind,.str o.sig,.int .i64 o.tok,.str o.txt])
    rw[<-hP11];have eR1:rwK x l d S (k+1)=L1++rwM qs (k:Int) (j:Int):=by
     unfold rwK;rw[ipo om];show rwL x l d S k++(rwC x S (jg l k) (frN l k)++rwU x l d S k)=_;unfold rwU;rw[<-hD,ine om,itn,eo,hL1,hL0,hps,eqs,b1,List.append_assoc];rfl
    have hLF2: ∀r∈L1,PcF r.p:=λr hr=>by
     rw[hL1]at hr;rcases List.mem_append.1 hr with hr|hr
     ·exact hLF r hr
     ·exact hpF _ (zT.1 hr).1
    have hLn2:(L1++rwM qs (k:Int) (j:Int)).length<=1000000000:=by
     rw[<-eR1];unfold rwK;rw[ipo om];exact Nat.le_trans (qmm (show k+1<=l.length by omega)) hN
    simp (disch:=omega) only[go_sem];have hqn:qs.length<=1000000000:=by rw[lap,jR]at hLn2;omega
    refine qt (T:=λi:Nat×AObj=>zw 154 [(1,zn l),(2,jO d),(3,.int .i64 (S:Int)),(4,.op h.length 1 0),(13,.osl (h.length+13) 1 1 0 l.length),(16,.op (h.length+3) 1 0),(17,.op (h.length+4) 1 0),(18,.int .i64 (t':Int)),(19,.op (h.length+7) (qn (some O7)+1) 0),(78,.osl (h.length+14) 2 3 0 (l.length+1)),(79,.int .i64 ((l.length+1:Nat):Int)),(80,.int .i64 (k:Int)),(111,qdI qs),(112,.int .i64 qs.length),(113,.int .i64 i.1)])
     (H:=λi=>h++ [.mem 1 26 [.str x.sec,strs x.sig,qm x.tok,qo x.col],.emp 1,.emp 2,.mem 1 29 [.osl (h.length+15) (vb+ps.length+i.1) 7 0 (L1++rwM (qs.take i.1) (k:Int) (j:Int)).length],.mem 1 121 [.fn (.func 80) [] [.op (h.length+3) 1 0]],O5,.emp 0,P7,P8,A,O10,P11,i.2,.mem 1 3 (qL (UB x l d d.length)),.mem 2 64 MC,zf (vb+ps.length+i.1) 36 (jN (bsW (L1++rwM (qs.take i.1) (k:Int) (j:Int))))])
     (inv:=λi=>i.1<=qs.length∧qK [i.2] 0=true∧ ∀n,lowO n i.2) (m:=λi=>qs.length-i.1) (0,O12) ⟨nzl _,s12,l12⟩ ?_ ?_
    ·simp only[List.take_zero,rwM,List.map_nil,lan,Nat.add_zero];refine Wk.temps ?_
     (simp only[jO,dcC,go_sem,qf,qc,qb,qe];try exact we)
    rintro⟨i,B⟩ ⟨j1,j2,j3⟩ K3 hK3;simp only at j1 j2 j3 hK3;have j2': ∀m,qK (B::m) 0=true:=λ_=>j2
    by_cases hi:i<qs.length
    ·have w1:((i:Int)<qs.length)=True:=wj;have w2:(0<=(i:Int))=True:=wj;have hS:L1++rwM (qs.take (i+1)) (k:Int) (j:Int)=(L1++rwM (qs.take i) (k:Int) (j:Int))++ [⟨qs.getD i default,(k:Int),(j:Int)⟩]:=by
      unfold rwM;rw[List.take_add_one,zC hi,List.map_append,gdqA,zC hi,List.append_assoc];rfl
     have hpm:qs.getD i default∈qs:=zI hi;obtain⟨p,hp'⟩:=wg (qs.getD i default)
     have ep:=hp'.symm;rw[<-hp']at hS hpm;obtain⟨M,hM⟩:=wg (L1++rwM (qs.take i) (k:Int) (j:Int))
     have hMF: ∀r∈M,PcF r.p:=λr hr=>by
      rw[hM]at hr;rcases List.mem_append.1 hr with hr|hr
      ·exact hLF2 r hr
      ·exact hpF2 _ (List.mem_of_mem_take (zT.1 hr).1)
     have hMn:M.length<=1000000000:=by
      rw[hM,lap,jR,List.length_take];rw[lap,jR]at hLn2;omega
     rw[<-hM]at hS ⊢;simp (disch:=omega) only[qdI,pcC,tkC,w1,w2,ep,j2',cP7,q2,q5,q6,eLs,hlc,hll,go_sem]
     repeat' first|with_reducible apply aiA|exact clz|fail
     refine qT (qxk (a:=h.length+3) (b:=h.length+15) (c:=h.length) (va:=1) (vb:=vb+ps.length+i) (Z:= .mem 1 26 [.str x.sec,strs x.sig,qm x.tok,qo x.col]) ⟨by simp,by simp,by simp,om,om,om⟩ M p (k:Int) (j:Int) (by simp only[go_sem]) (by simp only[go_sem]) (by simp only[go_sem]) (by rw[<-hX0];exact lX0) (hpF2 p hpm) hMn hMF) ?_;simp (disch:=omega) only[go_sem];refine hK3 _ _ (i+1,.mem (qn (some B)+1) 120 (pcC p)) ⟨hi,rfl,λn c hc=> ?_⟩ (by simp only;omega) ?_
     ·simp[pcC,tkC]at hc;rcases hc with rfl|rfl|rfl|rfl|rfl|rfl|rfl<;>rfl
     ·simp only[hS,pcC,tkC,lap,lco,lnl,lca,lna,Nat.zero_add];refine Wk.temps ?_
      (simp only[jO,dcC,go_sem,qf,qc,qb,qe];try exact we)
    ·have w1:((i:Int)<qs.length)=False:=wm;obtain rfl:i=qs.length:=by omega
     rw[List.take_length];simp (disch:=omega) only[w1,go_sem];have e2:nxT x l (k+1)=t':=by
      unfold nxT;rw[ipo om,b2];unfold jg;rw[ine om,Nat.add_sub_cancel]
     refine hK _ _ ⟨k+1,vb+ps.length+qs.length,P7,P8,A,O10,P11,B⟩ ⟨by simp only;omega,λO hO=> ?_⟩ (by simp only;omega) ?_
     ·simp only[List.mem_cons,List.not_mem_nil,or_false]at hO;rcases hO with rfl|rfl|rfl|rfl|rfl|rfl
      ·exact hP7l
      ·exact hP8l
      ·exact⟨sA,lA⟩
      ·exact⟨s10,l10⟩
      ·rw[hP11];refine⟨rfl,λn c hc=> ?_⟩;simp at hc;rcases hc with rfl|rfl|rfl|rfl<;>rfl
      ·exact⟨j2,j3⟩
     ·simp only[eR1,e2];refine Wk.temps ?_
      (simp only[go_sem,qf,qc,qb,qe];try exact we)
  ·intro e hh hf;exact hf.elim
def txG(p:Int->Bool)(b:List Wd):Nat->List Str
 |0=> []
 |i+1=>txG p b i++if p (b.getD i default).unit=true then [(b.getD i default).text] else []
theorem qvy(b:List Wd)(k:Int): ∀n,owG b k n=txG (λu=>decide (u=k)) b n:=by
 intro n
 induction n with
 |zero=>rfl
 |succ n ih=>
  unfold owG txG;rw[ih];congr 1
  by_cases g:(b.getD n default).unit=k
  ·rw[ipo g,ipo (dqt g)]
  ·rw[ine g,ine (by rw[dqf g];simp)]
def rwT(r:Rw):Str:=r.p.t.text
theorem qCr(p:Int->Bool)(L:List Rw): ∀n,n<=L.length->txG p (bsW L) n=((L.take n).filter λr=>p r.u).map rwT:=by
 intro n
 induction n with
 |zero=>intro _;rfl
 |succ n ih=>
  intro hn;unfold txG;rw[ih om,List.take_add_one,zC hn,Option.toList_some,List.filter_append,List.map_append,TQ hn];congr 1;have e:L.getD n default=L[n]:=by rw[gdqA,zC hn];rfl
  rw[e];show (if p L[n].u=true then [L[n].p.t.text] else [])=_;cases g:p L[n].u with
  |true=>rw[ipo rfl,List.filter_cons_of_pos (by rw[g])];rfl
  |false=>rw[ine (by simp),List.filter_cons_of_neg (by rw[g];simp)];rfl
theorem qvx(p:Int->Bool)(L:List Rw):txG p (bsW L) (bsW L).length=(L.filter λr=>p r.u).map rwT:=by
 rw[jK,qCr p L _ (nlr _),List.take_length]
theorem qbq{L:List Rw}{p:Rw->Bool}(h: ∀r∈L,p r=false):L.filter p= []:=List.filter_eq_nil_iff.2 λr hr=>by rw[h r hr];simp
theorem qoN{L:List Rw}{p:Rw->Bool}(h: ∀r∈L,p r=true):L.filter p=L:=List.filter_eq_self.2 h
def rwZ(x:Co)(l:List Un)(d:List Dc)(s k:Nat):Nat->List Rw
 |0=> []
 |n+1=>rwZ x l d s k n++(rwC x s (jg l (k+n)) (frN l (k+n))++rwU x l d s (k+n))
theorem qu9(x:Co)(l:List Un)(d:List Dc)(s k:Nat): ∀n,rwL x l d s (k+n)=rwL x l d s k++rwZ x l d s k n:=by
 intro n
 induction n with
 |zero=>rw[Nat.add_zero];unfold rwZ;rw[lan]
 |succ n ih=>
  show rwL x l d s (k+n)++(rwC x s (jg l (k+n)) (frN l (k+n))++rwU x l d s (k+n))=rwL x l d s k++(rwZ x l d s k n++(rwC x s (jg l (k+n)) (frN l (k+n))++rwU x l d s (k+n)));rw[ih,List.append_assoc]
def rwF(x:Co)(l:List Un)(d:List Dc)(s k:Nat):List Rw:=rwL x l d s k++rwC x s (jg l k) (frN l k)
def rwE(x:Co)(l:List Un)(d:List Dc)(s k:Nat):List Rw:=rwZ x l d s (k+1) (l.length-(k+1))++rwC x s (jg l l.length) x.col.length
theorem qmo(x:Co)(l:List Un)(d:List Dc)(s:Nat){k:Nat}(hk:k<l.length):rwA x l d s=rwF x l d s k++(rwU x l d s k++rwE x l d s k):=by
 unfold rwA;have e:l.length=(k+1)+(l.length-(k+1)):=by omega
 have e1:=qu9 x l d s (k+1) (l.length-(k+1));rw[<-e]at e1;rw[e1];show (rwL x l d s k++(rwC x s (jg l k) (frN l k)++rwU x l d s k))++_++_=_;unfold rwF rwE;simp only[List.append_assoc]
theorem qFb{x:Co}{l:List Un}{d:List Dc}{s:Nat}(h:Uh x l d s){k:Nat}(hk:k<l.length){r:Rw}(hr:r∈rwF x l d s k):r.u<k:=by
 rcases List.mem_append.1 (show r∈rwL x l d s k++_ from hr)with hr|hr
 ·exact ((qmq h k om).1 r hr).2.2
 ·have:=(qcv h (show frN l k<=x.col.length by have:=kn h.us hk;omega) hr).1
  omega
theorem qFc{x:Co}{l:List Un}{d:List Dc}{s:Nat}(h:Uh x l d s){k:Nat}: ∀n,k+n<=l.length-> ∀r∈rwZ x l d s k n,r.u<0∨(k:Int)<=r.u:=by
 intro n
 induction n with
 |zero=>intro _ r hr;cases hr
 |succ n ih=>
  intro hn r hr;rcases List.mem_append.1 (show r∈rwZ x l d s k n++_ from hr)with hr|hr
  ·exact ih om r hr
  ·rcases List.mem_append.1 hr with hr|hr
   ·have:=(qcv h (show frN l (k+n)<=x.col.length by have:=kn h.us (show k+n<l.length by omega);omega) hr).1
    omega
   ·have:=(qgJ h (show k+n<l.length by omega) hr).u
    omega
theorem qFa{x:Co}{l:List Un}{d:List Dc}{s:Nat}(h:Uh x l d s){k:Nat}(hk:k<l.length){r:Rw}(hr:r∈rwE x l d s k):r.u<0∨(k:Int)<r.u:=by
 rcases List.mem_append.1 (show r∈rwZ x l d s (k+1) (l.length-(k+1))++_ from hr)with hr|hr
 ·have:=qFc h (l.length-(k+1)) om r hr
  omega
 ·have:=(qcv h (nlr _) hr).1
  omega
theorem qr3{x:Co}{l:List Un}{d:List Dc}{s:Nat}(h:Uh x l d s){k:Nat}(hk:k<l.length):owG (bsW (rwA x l d s)) k (bsW (rwA x l d s)).length=(rwU x l d s k).map rwT:=by
 rw[qvy,qvx,qmo x l d s hk,List.filter_append,List.filter_append];rw[qbq (L:=rwF x l d s k) (λr hr=>dqf (by have:=qFb h hk hr;omega)),qoN (L:=rwU x l d s k) (λr hr=>dqt (qgJ h hk hr).u),
  qbq (L:=rwE x l d s k) (λr hr=>dqf (by have:=qFa h hk hr;omega)),lna,lan]
theorem qgI(ps:List Pc)(u d:Int):(rwM ps u d).map rwT=ps.map λp=>p.t.text:=by unfold rwM;rw[List.map_map];rfl
theorem qdc{x:Co}{l:List Un}{d:List Dc}{s k:Nat}:(rwU x l d s k).map rwT=
  if TL x l d k d.length<0 then rdG x s (frN l k) (toN l k-frN l k)
  else if (d.getD (TL x l d k d.length).toNat default).kind=1 then rdG x (zU x (d.getD (TL x l d k d.length).toNat default).sig).toNat (frN l k) (toN l k-frN l k)
  else if (d.getD (TL x l d k d.length).toNat default).kind=2 then (qbM (d.getD (TL x l d k d.length).toNat default).txt).map Tk.text else []:=by
 unfold rwU;split
 ·rw[qgI,qgO]
 ·rw[qgI];unfold qhV;split
  ·rw[qgO]
  ·split
   ·rw[List.map_map];rfl
   ·rfl
theorem qpr{x:Co}{l:List Un}{s:Nat}: ∀r∈rwA x l [] s,r.d= -1:=by
 have hU: ∀k,∀r∈rwU x l [] s k,r.d= -1:=λk r hr=>by
  unfold rwU at hr;rw[ipo (by show (-1:Int)<0;omega)]at hr;exact (zT.1 hr).2.2
 have hL: ∀k,∀r∈rwL x l [] s k,r.d= -1:=by
  intro k
  induction k with
  |zero=>intro r hr;cases hr
  |succ k ih=>
   intro r hr;rcases List.mem_append.1 (show r∈rwL x l [] s k++_ from hr)with hr|hr
   ·exact ih r hr
   ·rcases List.mem_append.1 hr with hr|hr
    ·exact (zT.1 (show r∈rwM _ _ _ from hr)).2.2
    ·exact hU k r hr
 intro r hr;rcases List.mem_append.1 (show r∈rwL x l [] s l.length++_ from hr)with hr|hr
 ·exact hL _ r hr
 ·exact (zT.1 (show r∈rwM _ _ _ from hr)).2.2
theorem qBQ{x:Co}{l:List Un}(h:UT x l=true){k s:Nat}(hk:k<l.length)(hs:s<x.sig.length):
  ∃j,qc5 (l.getD k default).rds s=(j:Nat)∧j<(l.getD k default).rds.length∧((l.getD k default).rds.getD j default).words=rdG x s (frN l k) (toN l k-frN l k)∧qgA (l.getD k default).rds (rdG x s (frN l k) (toN l k-frN l k))=(j:Nat):=by
 obtain⟨_,_,_,_,e⟩:=kn h hk;have hi:=qa1 x (frN l k) (toN l k);have hh:=qa0 x (frN l k) (toN l k);rw[e];obtain⟨j,h1,h2,h3,h4,h5⟩:=ql5 hh hi hs;refine⟨j,h1,h2,h4,?_⟩;unfold qgA;refine TD h2 (λi hij=>dqf λhw=>hi.ne i j hij h2 ?_) (dqt h4.symm);rw[<-hw,h4]
def dcK(x:Co)(l:List Un)(d:List Dc)(r:Rw):Int:=if r.u<0 then-1 else TL x l d r.u.toNat d.length
theorem qr9{x:Co}{l:List Un}{d:List Dc}{s k:Nat}{r:Rw}(hr:r∈rwU x l d s k):r.u=k∧r.d=TL x l d k d.length:=by
 have h1:=UA x l d k d.length;unfold rwU at hr;split at hr
 ·obtain⟨_,g2,g3⟩:=zT.1 hr;exact⟨g2,om⟩
 ·obtain⟨_,g2,g3⟩:=zT.1 hr;exact⟨g2,g3⟩
theorem qmn{x:Co}{l:List Un}{d:List Dc}{s:Nat}{r:Rw}(hr:r∈rwA x l d s):(r.u= -1∧r.d= -1)∨ ∃k,k<l.length∧r∈rwU x l d s k:=by
 have hL: ∀k,k<=l.length->r∈rwL x l d s k->(r.u= -1∧r.d= -1)∨ ∃k,k<l.length∧r∈rwU x l d s k:=by
  intro k
  induction k with
  |zero=>intro _ hr;cases hr
  |succ k ih=>
   intro hk hr;rcases List.mem_append.1 (show r∈rwL x l d s k++_ from hr)with hr|hr
   ·exact ih om hr
   ·rcases List.mem_append.1 hr with hr|hr
    ·exact .inl (zT.1 (show r∈rwM _ _ _ from hr)).2
    ·exact .inr ⟨k,om,hr⟩
 rcases List.mem_append.1 (show r∈rwL x l d s l.length++_ from hr)with hr|hr
 ·exact hL _ (nlr _) hr
 ·exact .inl (zT.1 (show r∈rwM _ _ _ from hr)).2
theorem qml{x:Co}{l:List Un}{d:List Dc}{s:Nat}{r:Rw}(hr:r∈rwA x l d s):r.d=dcK x l d r:=by
 unfold dcK;rcases qmn hr with⟨h1,h2⟩|⟨k,_,hk⟩
 ·rw[ipo om,h2]
 ·obtain⟨h1,h2⟩:=qr9 hk;rw[ine om,h1,itn,h2]
theorem qEi{x:Co}{l:List Un}{d:List Dc}{s:Nat}(h:Uh x l d s){i:Nat}(hi:i<(rwA x l d s).length):qiJ x l (bsW (rwA x l d s)) i=0:=by
 obtain⟨g1,g2⟩:=qgH h;have hm:=zI (a:=default) hi;have g:=g1 _ hm;have hd:=qml hm;have hr:=U1 l ((rwA x l d s).getD i default).p.c;have hu:=g.u;unfold qiJ;rw[TQ hi];obtain⟨r,hrr⟩:=wg ((rwA x l d s).getD i default)
 rw[<-hrr]at g hd hr hu;have bef: ∀hi0:i≠0,qeK (bsW (rwA x l d s)) i=mkW (qnM (rwA x l d s) (i-1)) ((rwA x l d s).getD (i-1) default)∧((rwA x l d s).getD (i-1) default).p.c<=r.p.c∧(0<=r.u->r.u=((rwA x l d s).getD (i-1) default).u->r.d=((rwA x l d s).getD (i-1) default).d):=λhi0=>by
  refine⟨?_,?_,λh1 h2=> ?_⟩
  ·unfold qeK;rw[ine hi0,TQ om]
  ·have:=List.pairwise_iff_getElem.1 g2 (i-1) i om hi om
   rw[hrr,gdqA,zC (show i-1<_ by omega),gdqA,zC hi];exact this
  ·have h3:=qml (zI (a:=default) (show i-1<(rwA x l d s).length by omega));rw[hd,h3];unfold dcK;rw[h2]
 rw[<-hrr];unfold wdE;show (if r.p.t.text= []∨64<r.p.t.text.length then (11:Int) else if r.p.c<0∨(x.col.length:Int)<=r.p.c∨(decide (i=0)=false∧r.p.c<(qeK (bsW (rwA x l d s)) i).col) then 19 else
  if r.u< -1∨(l.length:Int)<=r.u then 20 else if fnU l r.p.c≠r.u then 20 else
  if r.d< -1∨(r.u<0∧r.d≠ -1)∨(decide (i=0)=false∧0<=r.u∧r.u=(qeK (bsW (rwA x l d s)) i).unit∧r.d≠(qeK (bsW (rwA x l d s)) i).dec) then 2 else 0)=0
 rw[ine (λhc=>hc.elim g.tx.1 (λhc=>by have:=g.tx.2;omega))];rw[ine]
 ·rw[ine om,ine (λhc=>hc hu),ine];rintro (hc|⟨hc1,hc2⟩|⟨h0,h1,h2,h3⟩)
  ·have:=g.d.1;omega
  ·exact hc2 (g.n hc1).2
  ·have h0:i≠0:=of_decide_eq_false h0;obtain⟨b1,b2,b3⟩:=bef h0;rw[b1]at h2 h3;exact h3 (b3 h1 h2)
 ·rintro (hc|hc|⟨h0,h1⟩)
  ·have:=g.c.1;omega
  ·have:=g.c.2;omega
  ·have h0:i≠0:=of_decide_eq_false h0;obtain⟨b1,b2,b3⟩:=bef h0;rw[b1]at h1;have h1:r.p.c<((rwA x l d s).getD (i-1) default).p.c:=h1;omega
theorem qsR(L:List Rw)(c:Int): ∀n,n<=L.length->cW (bsW L) c n=((L.take n).filter λr=>decide (r.p.c=c)).length:=by
 intro n
 induction n with
 |zero=>intro _;rfl
 |succ n ih=>
  intro hn;unfold cW;rw[ih om,List.take_add_one,zC hn,Option.toList_some,List.filter_append,lap,TQ hn];congr 1;have e:L.getD n default=L[n]:=by rw[gdqA,zC hn];rfl
  rw[e];show (if L[n].p.c=c then 1 else 0)=_
  by_cases g:L[n].p.c=c
  ·rw[ipo g,List.filter_cons_of_pos (p:=λr:Rw=>decide (r.p.c=c)) (dqt g)];rfl
  ·rw[ine g,List.filter_cons_of_neg (p:=λr:Rw=>decide (r.p.c=c)) (by rw[dqf g];simp)];rfl
theorem qqn{x:Co}{l:List Un}{d:List Dc}{s:Nat}(h:Uh x l d s){c:Nat}(hc:c<x.col.length)(hf:fnU l (c:Int)<0): ∀n,n<=x.col.length->(rwS x l d s n).filter (λr=>decide (r.p.c=(c:Int)))=if c<n then [⟨pcT x s c,-1,-1⟩] else []:=by
 intro n
 induction n with
 |zero=>intro _;rfl
 |succ n ih=>
  intro hn;show (rwS x l d s n++rwc x l d s n).filter _=_;rw[List.filter_append,ih om]
  by_cases e:n=c
  ·subst e;rw[ine (Nat.lt_irrefl _),ipo (Nat.lt_succ_self _)];unfold rwc;rw[ipo hf,List.filter_cons_of_pos (p:=λr:Rw=>decide (r.p.c=(n:Int))) (dqt rfl)];rfl
  ·have e2:(rwc x l d s n).filter (λr=>decide (r.p.c=(c:Int)))= []:=by
    refine qbq λr hr=>dqf λhc2=> ?_
    unfold rwc at hr;split at hr
    ·rw[List.mem_singleton]at hr;subst hr;have hc2:((n:Nat):Int)=c:=hc2;omega
    ·rename_i g;split at hr
     ·have hg:=U1 l (n:Int);have q:=qgJ h (show (fnU l (n:Int)).toNat<l.length by omega) hr;have q2:=qB3 h (show (fnU l (n:Int)).toNat<l.length by omega) q;have q3:=q2.u;rw[hc2]at q3
      have:=q.u
      omega
     ·cases hr
   rw[e2,lan]
   by_cases g:c<n
   ·rw[ipo g,ipo om]
   ·rw[ine g,ine om]
theorem qEg{x:Co}{l:List Un}{d:List Dc}{s:Nat}(h:Uh x l d s){c:Nat}(hc:c<x.col.length)(hf:fnU l (c:Int)<0):ccB x (bsW (rwA x l d s)) c=true:=by
 have hS:=qva d h.us h.cv h.co h.sl;have hF:=qqn h hc hf x.col.length (nlr _);rw[hS,ipo hc]at hF;have h1:cW (bsW (rwA x l d s)) c (bsW (rwA x l d s)).length=1:=by
  rw[jK,qsR _ _ _ (nlr _),List.take_length,hF];rfl
 unfold ccB;rw[h1,dqt rfl,Bool.true_and];have hm:(⟨pcT x s c,-1,-1⟩:Rw)∈rwA x l d s:=by
  have:(⟨pcT x s c,-1,-1⟩:Rw)∈(rwA x l d s).filter (λr=>decide (r.p.c=(c:Int))):=by rw[hF];exact List.mem_singleton.2 rfl
  exact (List.mem_filter.1 this).1
 obtain⟨i,hi,he⟩:=List.getElem_of_mem hm;refine qY.2 ⟨i,by rw[jK];exact hi,?_⟩;rw[TQ hi];have e:(rwA x l d s).getD i default=⟨pcT x s c,-1,-1⟩:=by rw[gdqA,zC hi];exact he
 rw[e];show (decide (((c:Nat):Int)=(c:Int))&&decide ((pcT x s c).t.text=txA x c))=true;rw[dqt rfl,Bool.true_and,decide_eq_true_iff];obtain⟨a1,a2,a3⟩:=qkg h.cv h.co h.sl hc hf;obtain⟨b1,_,b3⟩:=qkg h.cv h.co (show 0<x.sig.length from h.co.sg.1) hc hf;unfold pcB at a1 b1;have a1:=of_decide_eq_true a1;have b1:=of_decide_eq_true b1;unfold clT at a2;rw[ine om,ine om]at a2;exact Option.some.inj a2
theorem qtm{x:Co}{l:List Un}{d:List Dc}{s:Nat}(h:Uh x l d s):pvE x l (bsW (rwA x l d s))=0:=by
 have h1:vaE x l=0:=by
  unfold vaE;rw[ine (λhc=>hc h.ca),ine];unfold rgB;rw[h.us,h.cv];simp
 unfold pvE;have h2:TB (qiJ x l (bsW (rwA x l d s))) 0 (bsW (rwA x l d s)).length=0:=jq λi hi=>qEi h (by rw[jK]at hi;exact hi)
 rw[h1,h2,ine (by simp),ine (by simp)];refine jq λc hc=> ?_
 unfold qDr;split
 ·rfl
 ·rename_i g;rw[ipo (qEg h hc om)]
def unF(x:Co)(r:Nat×Nat):Un:=⟨(r.1:Int),(r.2:Int),qbZ x r.1 r.2⟩
def rnL(x:Co):List (Nat×Nat):=qcu (cmB x) x.col.length
def UU(x:Co):List Un:=(rnL x).map (unF x)
theorem qqj(p:Nat->Bool)(n:Nat): ∀d f,(kV p n d f).Pairwise λa b=>a.2<b.1:=by
 intro d
 induction d with
 |zero=>intro f;exact List.Pairwise.nil
 |succ d ih=>
  intro f;unfold kV;split
  ·exact List.Pairwise.nil
  ·rw[List.pairwise_append];refine⟨?_,ih _,λa ha b hb=> ?_⟩
   ·split
    ·exact List.pairwise_singleton _ _
    ·exact List.Pairwise.nil
   ·split at ha
    ·rw[List.mem_singleton]at ha;subst ha
     have:=((qdb p n d (nxt p (n-f) f+1)).1 b hb).1
     show nxt p (n-f) f<b.1;omega
    ·cases ha
theorem qdu(x:Co):(UU x).length=(rnL x).length:=by unfold UU;rw[List.length_map]
theorem qdt{x:Co}{k:Nat}(hk:k<(rnL x).length):(UU x).getD k default=unF x (rnL x)[k]:=by
 unfold UU;rw[gdqA,List.getElem?_map,zC hk];rfl
theorem qmc{x:Co}{k:Nat}(hk:k<(rnL x).length):(rnL x)[k].1<(rnL x)[k].2∧(rnL x)[k].2<=x.col.length∧ ∀c,(rnL x)[k].1<=c->c<(rnL x)[k].2->cmB x c=false:=qmi (List.getElem_mem hk)
theorem qdv(x:Co):UT x (UU x)=true:=by
 unfold UT;rw[Bool.not_eq_true',qu];intro k hk;rw[qdu]at hk;rw[Bool.not_eq_false'];obtain⟨h1,h2,_⟩:=qmc hk;refine qm9.2 ?_;rw[qdt hk];have hb:beH (UU x) k<((rnL x)[k].1:Int):=by
  unfold beH;split
  ·omega
  ·rename_i h0;rw[qdt (show k-1<(rnL x).length by omega)]
   have:=List.pairwise_iff_getElem.1 (qqj (cmB x) x.col.length (x.col.length+1) 0) (k-1) k (by show _<(rnL x).length;omega) hk om
   show ((rnL x)[k-1].2:Int)<_;have this:(rnL x)[k-1].2<(rnL x)[k].1:=this;omega
 refine⟨hb,?_,?_,?_,?_⟩
 ·show (0:Int)<=((rnL x)[k].1:Nat);omega
 ·show ((rnL x)[k].1:Int)<((rnL x)[k].2:Nat);omega
 ·show ((rnL x)[k].2:Int)<=_;omega
 ·show qbZ x (rnL x)[k].1 (rnL x)[k].2=qbZ x (((rnL x)[k].1:Nat):Int).toNat (((rnL x)[k].2:Nat):Int).toNat;rw[itn,itn]
structure Fo where
 k:Int
 g:Str
 t:Int
theorem qpf{d:List Dc}{j:Nat}(ht: ∀o∈d,o.txt.length<=1000):(d.getD j default).txt.length<=1000:=by
 by_cases hj:j<d.length
 ·exact ht _ (zI hj)
 ·rw[gdqA,List.getElem?_eq_none om];exact nzl _
theorem qvc{x:Co}{l:List Un}{d:List Dc}{s k:Nat}(ht: ∀o∈d,o.txt.length<=1000):(rwU x l d s k).length<=(toN l k-frN l k)+1000:=by
 unfold rwU;split
 ·rw[jR]
  have:=qdk x s (frN l k) (toN l k-frN l k)
  omega
 ·rw[jR];unfold qhV;split
  ·have:=qdk x (zU x (d.getD (TL x l d k d.length).toNat default).sig).toNat (frN l k) (toN l k-frN l k)
   omega
  ·split
   ·rw[List.length_map];have h1:=qdr (d.getD (TL x l d k d.length).toNat default).txt;have h2:=qpf (j:=(TL x l d k d.length).toNat) ht;omega
   ·exact nzl _
theorem qmp(x:Co)(s f t:Nat):(rwC x s f t).length<=t-f:=by
 unfold rwC;rw[jR];exact qdk x s f _
theorem qft{x:Co}{l:List Un}{d:List Dc}{s:Nat}(h:UT x l=true)(ht: ∀o∈d,o.txt.length<=1000): ∀k,k<=l.length->(rwL x l d s k).length<=jg l k+1000*k∧k<=jg l k:=by
 intro k
 induction k with
 |zero=>intro _;exact⟨nzl _,nzl _⟩
 |succ k ih=>
  intro hk;obtain⟨i1,i2⟩:=ih om;have hp:=qek h (show k<l.length by omega);obtain⟨_,_,a3,a4,_⟩:=kn h (show k<l.length by omega);have u:=qvc (x:=x) (l:=l) (s:=s) (k:=k) ht;have c:=qmp x s (jg l k) (frN l k);rw[qc0];refine⟨?_,om⟩;show (rwL x l d s k++(rwC x s (jg l k) (frN l k)++rwU x l d s k)).length<=_;rw[lap,lap];omega
theorem qu7{x:Co}{l:List Un}{d:List Dc}{s:Nat}(h:UT x l=true)(ht: ∀o∈d,o.txt.length<=1000):(rwA x l d s).length<=1001*x.col.length:=by
 obtain⟨h1,h2⟩:=qft (d:=d) (s:=s) h ht l.length (nlr _);have hp:=qbG h (nlr l.length);have c:=qmp x s (jg l l.length) x.col.length;unfold rwA;rw[lap];omega
theorem qu8{x:Co}{l:List Un}{d:List Dc}{s:Nat}(hc:x.col.length<=10000)(ht: ∀o∈d,o.txt.length<=1000)(h:vaE x l=0):(rwA x l d s).length<=1000000000:=by
 have:=qu7 (d:=d) (s:=s) (qeF h).2.1 ht
 omega
end RC
end
section
open Go Go.Proofs AF
def qtY:List Nat:= []
@[go_sem]def vM:DT:= DT.one ⟨some 23,none,.app 4 3 64 40,[.t 14,.t 22]⟩ (DT.one ⟨none,none,.store 1,[.t 4,.t 23]⟩ DT.nil)
def qDM:C:=
 (vU [O1 1 (.box 0 26) 0,ON 2 (.nilo 1 3 64) [],vO 3 0] ((vU [O1 7 (.load (some 4)) 1,O1 8 (.call 67 true) 7,vP 9 .neq 8 0] (vV 9 (vX [ON 2 (.nilo 1 3 64) [],vO 3 1]))).seq (vU
 [⟨some 4,none,.alloc 2 28 [.nl],[]⟩] (((C.wk.seq (vY [O1 10 (.load (some 4)) 1,O1 11 (.call 89 true) 10])).seq (C.block 0 (C.range (.t 11) [12,13] (vU [MV 5 12] (vY [MV 6 13]))
 (C.block 1 (C.draw (DT.one ⟨some 15,none,.mv,[.t 5]⟩ (DT.one ⟨some 16,none,.mv,[.t 6]⟩ (DT.one ⟨some 17,none,.load (some 4),[.t 1]⟩ (DT.one ⟨some 18,none,.mv,[.t 5]⟩ (DT.one
 ⟨some 19,none,.mv,[.t 6]⟩ (DT.uni ⟨some 20,none,.call 90 true,[.t 17,.t 18,.t 19]⟩ (DT.one ⟨some 21,none,.build [i6 0,i6 0,.nl] [(0,1),(1,1),(2,1)],[.t 15,.t 16,.t 20]⟩
 ((DT.one ⟨some 14,none,.load none,[.t 4]⟩ (DT.one ⟨some 22,none,.bslc 3 3 1 64 [i6 0,i6 0,.nl] [(0,3)],[.t 21]⟩ vM)).two (DT.one ⟨some 22,none,.bslc 3 3 1 64 [i6 0,i6 0,.nl]
 [(0,3)],[.t 21]⟩ (DT.one ⟨some 14,none,.load none,[.t 4]⟩ vM))))))))))))))).seq (vX [LD 24 4,MV 2 24,vO 3 0])))))
theorem qAH:qP Tryz.prog 31 25 5 [RV.tmp 2,RV.tmp 3] qDM:=fi Tryz.f31 [1,2,4,22,23] qtY [4]
end
section
open Go Go.Proofs AF HY LN
namespace RC
def utE(x:Co):Int:=if coE x=0 then 0 else 1
def utR(x:Co):List Un:=if coE x=0 then UU x else []
theorem qqt{v n:Nat}{L:List Un}{ty:TypeId}{fz:Nat->Bool}{h:wh}{d:Nat}(hn:n=L.length):VLe (qeO (some (zf v ty (TN L))) v 3 0 n (rei fz h (d+1))) (zn L):=by
 subst hn;unfold zf;split
 ·rename_i e
  have:L= []:=by
   cases L with
   |nil=>rfl
   |cons a r=>exact absurd e (by simp[TN,unC])
  subst this;rw[slOf_emp,ipo rfl];exact zg
 ·rw[slOf_mem,ipo ⟨rfl,by rw[qa4];omega⟩];refine VLe.sl_eq rfl (λi hi=> ?_);simp only[Nat.zero_add];rw[qgY hi];rfl
theorem qFj(x:Co)(h:wh)(hz:UW x)(hp:kv SG h):ACalls Tryz.prog 31 [.agg (coC x)] h (.tup [zn (utR x),.int .i64 (utE x)]) h:=by
 have c1:=λl'=>coP x (h++l') hz (hp.app l')
 unfold utE utR
 by_cases g:coE x=0
 case neg=>
  have k1:(coE x=0)=False:=eqf g;rw[ine g,ine g];obtain⟨e,he⟩:=wg (coE x)
  rw[<-he]at c1 k1;unfold coC at c1;refine acO qAH ?_;simp (disch:=omega) only[qDM,coC,go_sem]
  repeat' first|(refine cA (c1 _) flk ?_;simp (disch:=omega) only[k1,go_sem])|(apply qa;exact rvk;simp only[go_sem])
  exact VLe.tup ⟨zg,qi,trivial⟩
 rw[ipo g,ipo g];simp only[g]at c1;have ho:=SV g;have hn:=hz.cl;have c2:=λh=>qF7 x h
 have lx: ∀n v ty,lowO n (.mem v ty (coC x)):=λn v ty=>qt9 x n v ty
 unfold coC at c1 c2;refine acO qAH ?_;simp (disch:=omega) only[qDM,coC,go_sem]
 repeat' first|(refine cA (c1 _) flk ?_;simp (disch:=omega) only[go_sem])
 refine⟨_,_,Wk.ownNil (j:=h.length+2) (i:=0) (k:=h.length+4) (v:=1) (ty:=28) (cs:= [.nl]) (ve:=0) (sz:=3) ?m1 rfl ?m2,?_⟩
 case m1=>simp only[go_sem]
 case m2=>simp only[go_sem]
 simp (disch:=omega) only[List.set_cons_zero,go_sem]
 repeat' first|(refine cA (c2 _) flk ?_;simp (disch:=omega) only[go_sem])
 have hrl:=qfo x;have hrg:=λi hi=>qmd (x:=x) (i:=i) hi
 have hul:(UU x).length=(qcu (cmB x) x.col.length).length:=qdu x;have hue:=λi (hi:i<(qcu (cmB x) x.col.length).length)=>qdt (x:=x) (k:=i) hi
 have hin:=λi (hi:i<(qcu (cmB x) x.col.length).length)=>qmc (x:=x) (k:=i) hi
 have hle:(UU x).length<=1000000000:=by
  have h1:=qft (s:=0) (qdv x) (d:= []) (by simp) (UU x).length (nlr _);have h2:=qbG (qdv x) (nlr (UU x).length);omega
 unfold rnL at hue hin;obtain⟨rs,hrs⟩:=wg (qcu (cmB x) x.col.length)
 simp only[<-hrs]at hrl hrg hul hue hin;obtain⟨L,hL⟩:=wg (UU x)
 simp only[<-hL]at hul hue hle ⊢;obtain⟨X0,hX0⟩:=wg (AObj.mem 1 26 [.str x.sec,strs x.sig,qm x.tok,qo x.col])
 refine zB (xs:=rnX x) (itR x ho hn) (qme x)
  (S:=λi hh=> ∃w O1,qK [O1] 0=true∧(∀n,lowO n O1)∧hh=h++ [.mem 1 26 (coC x),.emp 1,.mem 1 28 [.osl (h.length+4) w 3 0 i],O1,zf w 64 (TN (L.take i))])
  (E:=λ_ _=>False) ?e1 (λ_ _ h=>h.elim) ?e2 ?e3 ?e4 ?e5 (λ_ _ h=>h.elim)
 case e1=>
  rintro i hh ⟨w,O1,_,l1,rfl⟩;refine LowI.app rfl (λo ho=> ?_);simp only[List.mem_cons,List.not_mem_nil,or_false]at ho;rcases ho with rfl|rfl|rfl|rfl|rfl
  ·left;simp[coC]
  ·left;simp
  ·right;constructor<;>(intro c hc;simp only[List.mem_cons,List.not_mem_nil,or_false]at hc;rcases hc with rfl;simp[qZ])
  ·right;exact⟨l1 _,l1 _⟩
  ·right;exact⟨jc (qds _ _),jc (qds _ _)⟩
 case e2=>exact⟨0,.emp 0,rfl,λ_=>trivial,rfl⟩
 case e3=>
  have lt: ∀n,qZ n (qm x.tok)=true:=λ_=>rfl
  have lc: ∀n,qZ n (qo x.col)=true:=λ_=>rfl
  simp[qZ,qZ.lowVs,lt,lc,qgq]
  try omega
 case e4=>
  rintro i hh tl LI TS hi ⟨w,O1,p1,l1,rfl⟩ hlen K4 K5 hK4 hN hR' hX;rw[hrg i hi];rw[hrl]at hi;have e5:=hue i hi;obtain⟨f1,f2,_⟩:=hin i hi;have e6:rs.getD i (0,0)=rs[i]:=by rw[gdqA,zC hi];rfl
  rw[e6];have p1': ∀m,qK (O1::m) 0=true:=λ_=>p1
  have hTk:L.take (i+1)=L.take i++ [L.getD i default]:=by
   rw[List.take_add_one,zC om,gdqA,zC om];rfl
  rw[e5]at hTk;have hTl:(L.take i).length=i:=by rw[List.length_take];omega
  have eVl:=qa4 (L.take i);rw[hTl]at eVl;have eVk:List.take (i*3) (TN (L.take i))=TN (L.take i):=ltl om;obtain⟨⟨f,t⟩,hr⟩: ∃r,r=rs[i]:=⟨_,rfl⟩
  rw[<-hr]at hTk f1 f2 ⊢;have eVn:TN (L.take (i+1))=TN (L.take i)++ [.int .i64 (f:Int),.int .i64 (t:Int),jX (qbZ x f t)]:=by rw[hTk,qqQ,qqR];rfl
  have c48:=λh=>qF6 x f t h ho f2 hn
  unfold coC at c48;have zr: ∀X,(jX X).cells= [jX X]:=λ_=>rfl
  have zm:List.drop 3 (ja [AV.int .i64 0,.int .i64 0,.nl] 1)= []:=rfl;have hi9:((i:Int)+1)*24<=140737488355328:=by omega
  simp only[km];simp (disch:=omega) only[List.append_assoc,coC,go_sem];refine hK4 _ _ (h++ [.mem 1 26 (coC x),.emp 1,.mem 1 28 [.osl (h.length+4) w 3 0 i],O1,zf w 64 (TN (L.take i))]) (by simp[coC]) (by simp) ?_;simp (disch:=omega) only[List.append_assoc,coC,go_sem];refine ke ?T ?H ?h1 ?h2
  case h1=>
   simp (disch:=omega) only[go_sem]
   repeat' first|(refine cU (λ_=>c48 _) flk ?_;simp (disch:=omega) only[p1',eVl,eVk,List.set_cons_zero,zr,zm,go_sem])|with_reducible apply aiA
   all_goals first
    |omega
    |rfl
    |(rw[bne_iff_ne];omega)
    |skip
  case h2=>
  simp (disch:=omega) only[go_sem];refine hN _ _ (h++ [.mem 1 26 (coC x),.emp 1,.mem 1 28 [.osl (h.length+4) (w+1) 3 0 (i+1)],.mem (qn (some O1)+1) 64 [.int .i64 (f:Int),.int .i64 (t:Int),jX (qbZ x f t)],zf (w+1) 64 (TN (L.take (i+1)))]) (by rw[eVn];simp[coC]) (by simp)
   ⟨w+1,_,rfl,?lw,rfl⟩
  case lw=>
  intro n c hc;simp only[List.mem_cons,List.not_mem_nil,or_false]at hc;rcases hc with rfl|rfl|rfl<;>rfl
 case e5=>
  rintro hh ⟨w,O1,p1,l1,rfl⟩;rw[hrl,<-hul,List.take_length];simp (disch:=omega) only[go_sem]
  repeat' first|(apply qa;exact rvk;simp only[go_sem])|with_reducible apply aiA|exact clz|fail
  exact VLe.tup ⟨qqt rfl,qi,trivial⟩
end RC
end
section
open Go Go.Proofs AF
def qtQ:List Nat:= [118,114]
def qxF:C:=
 (vU [MV 6 1,O1 7 .len 6,vO 8 0] (C.block 0 (vU [BI 9 .lss 8 7] ((vW 9 0).seq ((C.block 1 (vU [O2 10 (.idxA 1) 6 8,LD 11 10,MV 5 11] (vY [MV 12 0,O1 13 .nilchk 12,vN 14 0 13,MV
 15 5,O2 16 (.call 118 false) 14 15]))).seq (vY [vP 17 .add 8 1,MV 8 17])))).loop))
theorem qzo:qP Tryz.prog 114 18 0 [] qxF:=fi Tryz.f114 [] qtQ []
end
section
open Go Go.Proofs AF HY LN
namespace RC
def wrO(kb vb kj v:Nat)(A:AV)(s:Str)(h:wh):wh:=qr kj (qr kb h (.mem vb 160 [A,.osl kj v 1 0 s.length])) (T8 v s)
theorem qw3{kb vb kj v:Nat}{A:AV}{s:Str}{h:wh}(hk:qq kb h=some (.mem vb 160 [A,.osl kj v 1 0 s.length]))(hj:qq kj h=some (T8 v s)):wrO kb vb kj v A s h=h:=by
 unfold wrO;rw[jt hk,jt hj]
theorem qFE{kb vb kj v:Nat}{A:AV}{s:Str}{h:wh}(hne:kj≠kb)(hk:kb<h.length):qq kb (wrO kb vb kj v A s h)=some (.mem vb 160 [A,.osl kj v 1 0 s.length]):=by
 unfold wrO;rw[qM (λe=>hne e.symm),zR hk]
theorem qFF{kb vb kj v:Nat}{A:AV}{s:Str}{h:wh}(hj:kj<h.length):qq kj (wrO kb vb kj v A s h)=some (T8 v s):=by
 unfold wrO;rw[zR (by rw[qO];exact hj)]
theorem qFG{kb vb kj v v':Nat}{A A':AV}{s s':Str}{h:wh}(hne:kj≠kb):qr kj (qr kb (wrO kb vb kj v A s h) (.mem vb 160 [A',.osl kj v' 1 0 s'.length])) (T8 v' s')=wrO kb vb kj v' A' s' h:=by
 unfold wrO;rw[TZ (λe=>hne e.symm),kS]
theorem qDj{kb vb kj v:Nat}{h:wh}{s:Str}(hkl:kb<h.length)(hjl:kj<h.length): ∀o∈wrO kb vb kj v (.op kb vb 0) s h,o∈h∨lowO h.length o:=qcD hkl hjl
end RC
end
section
namespace Go.Proofs
open Go.Shelf
def Tryz.laysJ156_ren:Go.Shelf.Ren:=⟨fun|156=>61|165=>117|166=>118|169=>116|240=>159|241=>160|276=>208|277=>209|n=>n,fun|31=>22|9=>9|3=>3|4=>4|0=>0|20=>20|72=>158|76=>167|70=>155|37=>156|75=>166|127=>202|164=>240|5=>5|80=>163|n=>n,fun|n=>n⟩
theorem Tryz.laysJ156:Go.Proofs.Lays.n156 Tryz.prog Tryz.laysJ156_ren:= {
 mixed:=by kernel_rfl
 f156:=Tryz.func61.trans (congrArg some (by kernel_rfl))
 f165:=Tryz.func117.trans (congrArg some (by kernel_rfl))
 f166:=Tryz.func118.trans (congrArg some (by kernel_rfl))
 f169:=Tryz.func116.trans (congrArg some (by kernel_rfl))
 f240:=Tryz.func159.trans (congrArg some (by kernel_rfl))
 f241:=Tryz.func160.trans (congrArg some (by kernel_rfl))
 f276:=Tryz.func208.trans (congrArg some (by kernel_rfl))
 f277:=Tryz.func209.trans (congrArg some (by kernel_rfl))
 t0:=Tryz.underlying0
 a0:=Tryz.isAgg0
 z0:=Tryz.sizeOf0
 v0:=Tryz.zeroValue0
 t3:=Tryz.underlying3
 a3:=Tryz.isAgg3
 z3:=Tryz.sizeOf3
 v3:=Tryz.zeroValue3
 t4:=Tryz.underlying4
 a4:=Tryz.isAgg4
 z4:=Tryz.sizeOf4
 v4:=Tryz.zeroValue4
 t9:=Tryz.underlying9
 a9:=Tryz.isAgg9
 z9:=Tryz.sizeOf9
 v9:=Tryz.zeroValue9
 t20:=Tryz.underlying20
 a20:=Tryz.isAgg20
 z20:=Tryz.sizeOf20
 v20:=Tryz.zeroValue20
 t31:=Tryz.underlying22
 a31:=Tryz.isAgg22
 z31:=Tryz.sizeOf22
 v31:=Tryz.zeroValue22
 t37:=Tryz.underlying156
 a37:=Tryz.isAgg156
 z37:=Tryz.sizeOf156
 v37:=Tryz.zeroValue156
 t70:=Tryz.underlying155
 a70:=Tryz.isAgg155
 z70:=Tryz.sizeOf155
 v70:=Tryz.zeroValue155
 t72:=Tryz.underlying158
 a72:=Tryz.isAgg158
 z72:=Tryz.sizeOf158
 v72:=Tryz.zeroValue158
 t75:=Tryz.underlying166
 a75:=Tryz.isAgg166
 z75:=Tryz.sizeOf166
 v75:=Tryz.zeroValue166
 t76:=Tryz.underlying167
 a76:=Tryz.isAgg167
 z76:=Tryz.sizeOf167
 v76:=Tryz.zeroValue167
 t127:=Tryz.underlying202
 a127:=Tryz.isAgg202
 z127:=Tryz.sizeOf202
 v127:=Tryz.zeroValue202
 t164:=Tryz.underlying240
 a164:=Tryz.isAgg240
 z164:=Tryz.sizeOf240
 v164:=Tryz.zeroValue240 }
end Go.Proofs
end
section
open Go Go.Proofs AF HY LN
namespace RC
theorem S5(kb vb kj v ka va:Nat)(A:AV)(s:Str)(L:List Str)(h:wh)(hne:kj≠kb)(na:ka≠kb)(nj:ka≠kj)(ha:qq ka h=some (.mem va 9 (jv L)))(hk:qq kb h=some (.mem vb 160 [A,.osl kj v 1 0 s.length]))(hA:A= .nilp∨A= .op kb vb 0)(hj:qq kj h=some (T8 v s))
  (hL:L≠ []) (hLn:L.length<=1000000) (hl:s.length+L.flatten.length<=140737488355328):
  ACalls Tryz.prog 114 [.op kb vb 0,.osl ka va 1 0 L.length] h (.tup []) (wrO kb vb kj (v+L.length) (.op kb vb 0) (s++L.flatten) h):=by
 have hkl:=zk hk;have hjl:=zk hj;obtain⟨Af,hAf⟩: ∃Af:Nat->AV,Af=λi=>if i=0 then A else .op kb vb 0:=⟨_,rfl⟩
 have hA2: ∀i,Af i= .nilp∨Af i= .op kb vb 0:=λi=>by
  rw[hAf];simp only;split
  ·exact hA
  ·exact .inr rfl
 obtain⟨Sf,hSf⟩: ∃Sf:Nat->Str,Sf=λi=>s++(L.take i).flatten:=⟨_,rfl⟩
 have h0:wrO kb vb kj (v+0) (Af 0) (Sf 0) h=h:=by
  rw[hAf,hSf];simp only[if_true,List.take_zero,List.flatten_nil,lan,Nat.add_zero];exact qw3 hk hj
 have hSl: ∀i,(Sf i).length<=s.length+L.flatten.length:=λi=>by
  rw[hSf];simp only[lap]
  have:(L.take i).flatten.length<=L.flatten.length:=by
   conv=>rhs;rw[<-List.take_append_drop i L,List.flatten_append,lap]
   omega
  omega
 have hSs: ∀i,i<L.length->Sf (i+1)=Sf i++L.getD i []:=λi hi=>by
  rw[hSf];simp only;rw[List.take_add_one,zC hi,List.flatten_append,gdqA,zC hi,List.append_assoc];simp
 have hga: ∀i,qq ka (wrO kb vb kj (v+i) (Af i) (Sf i) h)=some (.mem va 9 (jv L)):=λi=>by
  unfold wrO;rw[qM nj,qM na];exact ha
 have hca:=λi=>qJ (hga i)
 have hlv:qG h ka va=true:=by unfold qG;rw[ha];simp
 have hlw: ∀i,qG (wrO kb vb kj (v+i) (Af i) (Sf i) h) ka va=true:=λi=>by unfold qG;rw[hga i];simp
 have hcg: ∀i,i<L.length->(jv L)[i]? =some (.str (L.getD i [])):=λi hi=>by
  unfold jv;rw[List.getElem?_map,zC hi,gdqA,zC hi];rfl
 refine acO qzo ?_;simp (disch:=omega) only[qxF,hlv,go_sem];have hfin:Af L.length= .op kb vb 0:=by
  rw[hAf];simp only;rw[ine (λe=>hL (List.eq_nil_of_length_eq_zero e))]
 have hfs:Sf L.length=s++L.flatten:=by rw[hSf];simp only[List.take_length]
 have hge:wrO kb vb kj (v+L.length) (.op kb vb 0) (s++L.flatten) h=wrO kb vb kj (v+L.length) (Af L.length) (Sf L.length) h:=by rw[hfin,hfs]
 rw[hge];refine qt (T:=λi:Nat=>zw 18 [(0,.op kb vb 0),(6,.osl ka va 1 0 L.length),(7,.int .i64 L.length),(8,.int .i64 i)]) (H:=λi=>wrO kb vb kj (v+i) (Af i) (Sf i) h) (inv:=λi=>i<=L.length) (m:=λi=>L.length-i) 0 (nzl _) ?s0 ?_
 case s0=>
  rw[h0];refine Wk.temps ?_
  (simp only[go_sem,qf,qc,qb,qe];try exact we)
 rintro i i1 K hK;have hsl:=hSl i
 by_cases hi:i<L.length
 ·have k1:((i:Int)<L.length)=True:=wj;have k0:(0<=(i:Int))=True:=wj;have hs1:=hSs i hi;have hsl1:=hSl (i+1);have gk:=qFE (vb:=vb) (v:=v+i) (A:=Af i) (s:=Sf i) (h:=h) hne hkl;have gj:=qFF (kb:=kb) (vb:=vb) (v:=v+i) (A:=Af i) (s:=Sf i) (h:=h) hjl;obtain⟨w,hw⟩:=wg (L.getD i [])
  have ew:=hw.symm;rw[ew]at hs1;have hc:=qHM kb vb kj (v+i) (Af i) (Sf i) w _ hne gk (hA2 i) gj (by rw[hs1,lap]at hsl1;omega);have hAi:Af (i+1)= .op kb vb 0:=by rw[hAf];rfl
  have hlen:((Sf i).length+w.length)=(Sf (i+1)).length:=by rw[hs1,lap]
  have hr:wrO kb vb kj (v+i+1) (.op kb vb 0) (Sf (i+1)) h=wrO kb vb kj (v+(i+1)) (Af (i+1)) (Sf (i+1)) h:=by rw[hAi];rfl
  rw[<-hs1,hlen,qFG hne,hr]at hc;have hcell:=qJ gk;have hcA:=hca i;have hcG:=hcg i hi;have hLv:=hlw i;have eCl:=jE L;rw[ew]at hcG;simp (disch:=omega) only[k0,k1,hcA,hcG,hcell,go_sem]
  repeat' first|with_reducible apply aiA|exact clz|fail
  refine qv hc (by exact flk) ?_;simp (disch:=omega) only[go_sem];refine hK _ _ (i+1) hi om (Wk.temps ?_)
  (simp only[go_sem,qf,qc,qb,qe];try exact we)
 have k1:((i:Int)<L.length)=False:=wm;obtain rfl:i=L.length:=by omega
 simp (disch:=omega) only[k1,go_sem];rw[hfin];exact jH trivial (by unfold wrO;simp only[qO]) (qDj hkl hjl) ⟨rfl,rfl⟩ (qi)
theorem Tryz.joinX:Builder.Extra Tryz.prog Tryz.laysJ156_ren:= {
 sizeBuilder:=by kernel_rfl
 liesBuilder:=by kernel_rfl
 t5:=Tryz.underlying5
 a5:=Tryz.isAgg5
 z5:=Tryz.sizeOf5
 v5:=Tryz.zeroValue5
 infoByte:=by kernel_rfl
 cellsByte:=by kernel_rfl
 sizeByte:=by kernel_rfl
 neB5:=by decide }
theorem qy6(l:List UInt8):(ByteArray.mk l.toArray).data.toList=l:=by simp
theorem joP(L:List Str)(sep:Str)(h:wh)(hl:(Lib.join L sep).length<=1000000000)(hn:L.length<=1000000000):ACalls Tryz.prog 61 [strs L,.str sep] h (.str (Lib.join L sep)) h:=by
 refine⟨qhN Tryz.func61 (by kernel_rfl) (by kernel_rfl),λw σ xs H hv=> ?_⟩;obtain⟨x,y,rfl,hx,hy⟩:=hv.two;rw[jJ hy];have hm:(L.map λs=>ByteArray.mk s.toArray).map (·.data.toList)=L:=by
  rw[List.map_map];exact (List.map_congr_left (λi _=>qy6 i)).trans (List.map_id _)
 have hd:(ByteArray.mk sep.toArray).data.toList=sep:=qy6 sep;have key:CallsIn Fence.wide 0 Tryz.prog 61 #[x,.string ⟨sep.toArray⟩] w λe w'=>e= .returned (.string ⟨(Lib.join L sep).toArray⟩)∧Go.RowKit.Below w.heap.size w w':=by
  rcases qvF hx with⟨h0,a,rfl⟩|⟨b,off,cap,rfl,h1,h2,h3⟩
  ·obtain rfl:=List.eq_nil_of_length_eq_zero h0;refine (callsIn_wide.2 (Any.strings_Join_none Tryz.laysJ156 Tryz.joinX a 0 ⟨sep.toArray⟩ w)).mono ?_;rintro e w' ⟨rfl,rfl⟩;exact⟨rfl,Go.RowKit.Below.refl _ _⟩
  ·have hln:(L.map λs=>ByteArray.mk s.toArray).length=L.length:=by simp
   have hc:=Any.strings_Join Tryz.laysJ156 Tryz.joinX b off cap (L.map λs=>ByteArray.mk s.toArray) ⟨sep.toArray⟩ w (λj x hj=>by
    rw[List.getElem?_map,Option.map_eq_some_iff]at hj;obtain⟨i,hi,rfl⟩:=hj;obtain⟨hlt,e⟩:=lgs.1 hi
    have:=h3 j hlt
    rw[this,gdqA,hi]
    rfl) h2 om om (by rw[hm,hd];omega)
   rw[hln,hm,hd]at hc;exact callsIn_wide.2 hc
 refine key.mono ?_;rintro e w' ⟨rfl,hb⟩;obtain⟨H',e'⟩:=Ext.ofBelow H hb;exact⟨_,σ,rfl,H',.imm .str,e'⟩
theorem joB{L:List Str}{sep:Str}{X:AV}{h:wh}(hv:Ui ([X,.str sep].map (rei (λ_=>true) h 8)) [strs L,.str sep])(hl:(Lib.join L sep).length<=1000000000)(hn:L.length<=1000000000):ACalls Tryz.prog 61 [X,.str sep] h (.str (Lib.join L sep)) h:=
 ACalls.borrow ((joP L sep [] hl hn).le hv (qi)) rfl
def soE(x:Co)(l:List Un)(b:List Wd)(i:Int):Int:=if pvE x l b≠0 then pvE x l b else if i<0∨(b.length:Int)<=i then 2 else 0
def soL(x:Co)(l:List Un)(b:List Wd)(i:Int):List Int:=if soE x l b i=0 then soK x l b i.toNat else []
def agE(x:Co)(l:List Un)(b:List Wd)(s:Int):Int:=if pvE x l b≠0 then pvE x l b else if s<0∨(x.sig.length:Int)<=s then 2 else 0
def agB(l:List Un)(b:List Wd)(s:Int)(u:Nat):Bool:=decide (((l.getD u default).rds.getD (qaM (l.getD u default).rds s).toNat default).words=owG b (u:Int) b.length)
def agN(x:Co)(l:List Un)(b:List Wd)(s:Int):Int:=if agE x l b s=0 then (cP (agB l b s) l.length:Int) else 0
def agM(x:Co)(l:List Un)(b:List Wd)(s:Int):Int:=if agE x l b s=0 then (l.length:Int) else 0
theorem qc1{x:Co}{l:List Un}{b:List Wd}(h:pvE x l b=0){i:Nat}(hi:i<b.length): -1<=(b.getD i default).unit∧(b.getD i default).unit<(l.length:Int):=by
 have hu:=(qem h).un2 i hi
 have:=U1 l (b.getD i default).col
 omega
theorem qBP{x:Co}{l:List Un}{b:List Wd}(h:pvE x l b=0):vaE x l=0:=by
 unfold pvE at h;split at h
 ·rename_i h1;exact absurd h h1
 ·rename_i h1;exact Classical.not_not.1 h1
theorem qfF(x:Co)(l:List Un)(b:List Wd)(i:Int)(h:wh)(hz:UW x)(hu:qaH l)(hb:b.length<=1000000)(ht: ∀i,(b.getD i default).text.length<=1000000000)(hn:x.sig.length<=1000000)(hp:kv SG h):
  ACalls Tryz.prog 19 [.agg (coC x),zn l,jd b,.int .i64 i] h (.tup [qw (soL x l b i),.int .i64 (soE x l b i)]) h:=by
 have c38:=λl'=>pvP x l b (h++l') hz hu om ht (hp.app l')
 have z1: ∀g,valL g .len [jd b]= .int .i64 b.length:=λ_=>rfl
 have z2: ∀g,okL g .len [jd b]=True:=λ_=>eqt trivial
 have nl0:VLe AV.nl (qw []):=zg;obtain⟨E,hE⟩:=wg (soE x l b i)
 have hL:soL x l b i=if E=0 then soK x l b i.toNat else []:=by rw[hE];rfl
 rw[hL,<-hE];unfold soE at hE;unfold coC at c38
 by_cases g1:pvE x l b=0
 case neg=>
  rw[ipo g1]at hE;rw[hE,ine g1];have k1:(pvE x l b=0)=False:=eqf g1;refine acO qo0 ?_;simp (disch:=omega) only[qyh,coC,go_sem]
  repeat' first|(refine cA (c38 _) flk ?_;simp (disch:=omega) only[k1,go_sem])|(apply qa;exact rvk;simp only[go_sem])
  exact SK ⟨nl0,qi,trivial⟩
 rw[ine (λhc=>hc g1)]at hE;simp only[g1]at c38
 by_cases g2:i<0
 ·have k2:(i<0)=True:=eqt g2;rw[ipo (.inl g2)]at hE;rw[hE,ine (by decide)];refine acO qo0 ?_;simp (disch:=omega) only[qyh,coC,go_sem]
  repeat' first|(refine cA (c38 _) flk ?_;simp (disch:=omega) only[z1,z2,k2,go_sem])|(apply qa;exact rvk;simp only[go_sem])
  exact SK ⟨nl0,qi,trivial⟩
 have k2:(i<0)=False:=eqf g2
 by_cases g3:(b.length:Int)<=i
 ·have k3:((b.length:Int)<=i)=True:=eqt g3;rw[ipo (.inr g3)]at hE;rw[hE,ine (by decide)];refine acO qo0 ?_;simp (disch:=omega) only[qyh,coC,go_sem]
  repeat' first|(refine cA (c38 _) flk ?_;simp (disch:=omega) only[z1,z2,k2,k3,go_sem])|(apply qa;exact rvk;simp only[go_sem])
  exact SK ⟨nl0,qi,trivial⟩
 have k3:((b.length:Int)<=i)=False:=eqf g3;rw[ine (λhc=>hc.elim g2 g3)]at hE;rw[hE,ipo rfl];obtain⟨j,rfl⟩: ∃j:Nat,i=(j:Int):=⟨i.toNat,om⟩
 rw[itn];have c84:=λh=>qse x l b j h hu hb om hn (qc1 g1 om).2
 unfold coC at c84;refine acO qo0 ?_;simp (disch:=omega) only[qyh,coC,go_sem]
 repeat' first|((first|refine cA (c38 _) ?_ ?_|refine cA (c84 _) ?_ ?_);exact flk;simp (disch:=omega) only[z1,z2,k2,k3,go_sem])|exact wa|fail
theorem qgC{x:Co}{l:List Un}(ho:qDo x l){u:Nat}(hul:u<l.length){s:Int}(h1:0<=s)(h2:s<x.sig.length):0<=qc5 (l.getD u default).rds s∧qc5 (l.getD u default).rds s<(l.getD u default).rds.length∧qaM (l.getD u default).rds s=qc5 (l.getD u default).rds s∧s∈((l.getD u default).rds.getD (qc5 (l.getD u default).rds s).toNat default).src:=by
 have hmem:l.getD u default∈l:=by rw[gdqA,zC hul];exact List.getElem_mem hul
 have hr:=(ho.rg _ hmem).2.2.2;obtain⟨j,j1,j2⟩:=(qa0 x (l.getD u default).frm.toNat (l.getD u default).to.toNat).has s.toNat om;rw[<-hr]at j1 j2;have es:((s.toNat:Nat):Int)=s:=by omega
 rw[es]at j2;have hb:qc5 (l.getD u default).rds s=Uw (λj=>decide (s∈((l.getD u default).rds.getD j default).src)) (l.getD u default).rds.length 0:=rfl;rcases zE (λj=>decide (s∈((l.getD u default).rds.getD j default).src)) (l.getD u default).rds.length with⟨i,h3,h4,_,h6⟩|⟨h3,_⟩
 ·rw[<-hb]at h6;have h7:qaM (l.getD u default).rds s=qc5 (l.getD u default).rds s:=by unfold qaM;rw[ine om]
  refine⟨om,om,h7,?_⟩;rw[h6,itn];exact of_decide_eq_true h4
 ·exact absurd j2 (of_decide_eq_false (h3 j j1))
theorem qxm(x:Co)(l:List Un)(b:List Wd)(s:Int)(h:wh)(hz:UW x)(hu:qaH l)(hb:b.length<=1000000)(ht: ∀i,(b.getD i default).text.length<=1000000000)(hn:x.sig.length<=1000000)(hp:kv SG h):
  ACalls Tryz.prog 38 [.agg (coC x),zn l,jd b,.int .i64 s] h (.tup [.int .i64 (agN x l b s),.int .i64 (agM x l b s),.int .i64 (agE x l b s)]) h:=by
 have c38:=λl'=>pvP x l b (h++l') hz hu om ht (hp.app l')
 have z1: ∀g,valL g .len [strs x.sig]= .int .i64 x.sig.length:=λ_=>rfl
 have z2: ∀g,okL g .len [strs x.sig]=True:=λ_=>eqt trivial
 have zu:zn l= .sl l.length λi=>unC (l.getD i default):=rfl
 obtain⟨E,hE⟩:=wg (agE x l b s)
 have hN:agN x l b s=if E=0 then (cP (agB l b s) l.length:Int) else 0:=by rw[hE];rfl
 have hM:agM x l b s=if E=0 then (l.length:Int) else 0:=by rw[hE];rfl
 rw[hN,hM,<-hE];unfold agE at hE;unfold coC at c38
 by_cases g1:pvE x l b=0
 case neg=>
  rw[ipo g1]at hE;rw[hE,ine g1,ine g1];have k1:(pvE x l b=0)=False:=eqf g1;refine acO qo1 ?_;simp (disch:=omega) only[qyS,coC,go_sem]
  repeat' first|(refine cA (c38 _) flk ?_;simp (disch:=omega) only[k1,go_sem])|exact wa|fail
 rw[ine (λhc=>hc g1)]at hE;simp only[g1]at c38
 by_cases g2:s<0
 ·have k2:(s<0)=True:=eqt g2;rw[ipo (.inl g2)]at hE;rw[hE,ine (by decide),ine (by decide)];refine acO qo1 ?_;simp (disch:=omega) only[qyS,coC,go_sem]
  repeat' first|(refine cA (c38 _) flk ?_;simp (disch:=omega) only[z1,z2,k2,go_sem])|exact wa|fail
 have k2:(s<0)=False:=eqf g2
 by_cases g3:(x.sig.length:Int)<=s
 ·have k3:((x.sig.length:Int)<=s)=True:=eqt g3;rw[ipo (.inr g3)]at hE;rw[hE,ine (by decide),ine (by decide)];refine acO qo1 ?_;simp (disch:=omega) only[qyS,coC,go_sem]
  repeat' first|(refine cA (c38 _) flk ?_;simp (disch:=omega) only[z1,z2,k2,k3,go_sem])|exact wa|fail
 have k3:((x.sig.length:Int)<=s)=False:=eqf g3;rw[ine (λhc=>hc.elim g2 g3)]at hE;rw[hE,ipo rfl,ipo rfl];clear hE hN hM;have hok:=qem g1;have huo:=Tq hok.un;have hva:vaE x l=0:=qBP g1;have hln:=hu.n;refine acO qo1 ?_;simp (disch:=omega) only[qyS,coC,zu,go_sem]
 repeat' first|(refine cA (c38 _) flk ?_;simp (disch:=omega) only[z1,z2,k2,k3,go_sem])
 refine qt (T:=λu:Nat=>zw 73 [(1,zn l),(2,jd b),(3,.int .i64 s),(4,.op h.length 1 0),(12,.int .i64 (cP (agB l b s) u)),(35,.int .i64 l.length),(36,.int .i64 u)])
  (H:=λ_=>h++ [.mem 1 26 [.str x.sec,strs x.sig,qm x.tok,qo x.col]]) (inv:=λu=>u<=l.length) (m:=λu=>l.length-u) 0 (nzl _) (Wk.temps ?_) ?_
 ·(simp only[zu,cP,go_sem,qf,qc,qb,qe];try exact we)
 intro u u1 K hK
 by_cases hul:u<l.length
 ·have r1:((u:Int)<l.length)=True:=wj;have r0:(0<=(u:Int))=True:=wj;obtain⟨q1,q2,q3,q4⟩:=qgC huo hul (s:=s) om om;have hst:cP (agB l b s) (u+1)=cP (agB l b s) u+if agB l b s u=true then 1 else 0:=rfl
  have hag:agB l b s u=decide (((l.getD u default).rds.getD (qaM (l.getD u default).rds s).toNat default).words=owG b (u:Int) b.length):=rfl;have c63:=λh=>qF5 (l.getD u default) s h (hu.rd u) (hu.sr u)
  have c58:=λl'=>rdD x l b u (h++l') hz hu hb (hp.app l') hok.co hva hul
  have hwl:=hu.wd u (qaM (l.getD u default).rds s).toNat;have hol:=qlD b (u:Int) b.length;rw[q3]at hag hwl;obtain⟨k,hk⟩: ∃k:Nat,qc5 (l.getD u default).rds s=(k:Int):=⟨(qc5 (l.getD u default).rds s).toNat,om⟩
  rw[hk]at q1 q2 q3;simp only[q3]at c63;rw[hk,itn]at hag hwl;obtain⟨W,hW⟩:=wg (owG b (u:Int) b.length)
  rw[<-hW]at hag hol;simp only[<-hW]at c58;obtain⟨v,hv⟩:=wg (l.getD u default)
  have ev:=hv.symm;simp only[ev]at c63;rw[ev]at hag hwl q2;have zr:jX v.rds= .sl v.rds.length λi=>rdC (v.rds.getD i default):=rfl
  have r2:((k:Int)<v.rds.length)=True:=wj;have r3:(0<=(k:Int))=True:=wj;obtain⟨r,hr⟩:=wg (v.rds.getD k default)
  have er:=hr.symm;rw[er]at hag hwl;have c53:=λh=>qzg r.words W h om om
  rw[<-hag]at c53;unfold coC at c58;unfold unC at c63;obtain⟨C,hC⟩:=wg (cP (agB l b s) u)
  rw[<-hC]at hst;have hcl:C<=l.length:=by have:=qyX (agB l b s) u;omega
  cases hA:agB l b s u with
  |true=>
   rw[hA]at hst c53;rw[ipo rfl]at hst;rw[<-hC];simp (disch:=omega) only[zu,unC,r0,r1,ev,go_sem]
   repeat' first|((first|refine cA (c63 _) ?_ ?_|refine cA (c58 _) ?_ ?_|refine cA (c53 _) ?_ ?_);exact flk;simp (disch:=omega) only[r0,r1,ev,zr,rdC,r2,r3,er,go_sem])|with_reducible apply aiA|exact clz|fail
   refine hK _ _ (u+1) hul om (Wk.temps ?_);rw[hst]
   (simp only[zu,go_sem,qf,qc,qb,qe];try exact we)
  |false=>
   rw[hA]at hst c53;rw[ine (by simp),Nat.add_zero]at hst;rw[<-hC];simp (disch:=omega) only[zu,unC,r0,r1,ev,go_sem]
   repeat' first|((first|refine cA (c63 _) ?_ ?_|refine cA (c58 _) ?_ ?_|refine cA (c53 _) ?_ ?_);exact flk;simp (disch:=omega) only[r0,r1,ev,zr,rdC,r2,r3,er,go_sem])|with_reducible apply aiA|exact clz|fail
   refine hK _ _ (u+1) hul om (Wk.temps ?_);rw[hst]
   (simp only[zu,go_sem,qf,qc,qb,qe];try exact we)
 obtain rfl:u=l.length:=by omega
 have r1:((l.length:Int)<l.length)=False:=wm;simp (disch:=omega) only[zu,r1,go_sem]
 repeat' first|exact wa|fail
def unK(x:Co)(l:List Un)(b:List Wd):List Int:=if pvE x l b=0 then qbB (λi=>decide (soK x l b i= [])) b.length else []
theorem qrS{L:List Rd}{r:Nat}(hr:r<L.length):L.getD r default∈L:=by rw[gdqA,zC hr];exact List.getElem_mem hr
theorem qk0{x:Co}{l:List Un}{b:List Wd}(ho:qDo x l){u:Nat}(hul:u<l.length):(hsK l b u).length<=x.sig.length:=by
 have hmem:l.getD u default∈l:=by rw[gdqA,zC hul];exact List.getElem_mem hul
 have hri:qdK (l.getD u default).rds x.sig.length:=by rw[(ho.rg _ hmem).2.2.2];exact qa1 _ _ _
 have hlt:=qcF l b u;unfold hsK;split
 ·rename_i h0;have hr:(brK l b u).toNat<(l.getD u default).rds.length:=by omega
  have h1:=hri.src ((l.getD u default).rds.getD (brK l b u).toNat default) (qrS hr);have h2:=qeR (hi:=((x.sig.length:Nat):Int)) (lo:=0) h1.1 h1.2;omega
 ·exact nzl _
end RC
end
section
open Go Go.Proofs AF
def qtP:List Nat:= [124]
def qDO:C:=
 (vU [O1 3 (.box 0 26) 0,ON 6 (.nilo 1 1 3) [],vO 7 0] ((vU [O1 12 (.load (some 4)) 3,MV 13 1,MV 14 2,ON 15 (.call 17 true) [.t 12,.t 13,.t 14],MV 8 15] (vU [MV 16 8,vP 17 .neq
 16 0] (vV 17 (vX [MV 18 8,ON 6 (.nilo 1 1 3) [],MV 7 18])))).seq (vU [⟨some 9,none,.alloc 2 39 [.nl],[]⟩] ((vU [MV 19 1,O1 20 .len 19,vO 21 0] (C.block 0 (vU [BI 22 .lss 21 20]
 ((vW 22 0).seq ((C.block 1 (vU [MV 23 21,MV 10 23] ((vU [MV 24 1,MV 25 2,MV 26 10,ON 27 (.call 122 true) [.t 24,.t 25,.t 26],vP 28 .geq 27 0] (vV 28 (C.exit 1))).seq (vU [MV 29
 2,MV 30 10,O2 31 (.call 123 true) 29 30] (C.block 2 (C.range (.t 31) [32,33] (vY [MV 11 32]) (C.block 3 (vY [LD 34 9,MV 35 11,⟨some 36,none,.bslc 3 1 1 3 [i6 0] [(0,1)],[.t
 35]⟩,O2 37 (.app 4 1 3 8) 34 36,ST 1 9 37])))))))).seq (vY [vP 38 .add 21 1,MV 21 38])))).loop)).seq (vU [LD 39 9,O1 40 (.call 124 false) 39] (vX [LD 41 9,MV 6 41,vO 7 0]))))))
theorem qAN:qP Tryz.prog 66 42 5 [RV.tmp 6,RV.tmp 7] qDO:=fi Tryz.f66 [3,6,9,36,37] qtP []
end
section
open Go Go.Proofs AF HY LN
namespace RC
theorem qCk(k v:Nat)(h:wh)(hk:qq k h=some (.emp v)):ACalls Tryz.prog 124 [.osl k v 1 0 0] h (.tup []) h:=by
 refine⟨qhN Tryz.func124 (by kernel_rfl) (by kernel_rfl),λw σ xs H hv=> ?_⟩;obtain⟨x,rfl,hx⟩:=hv.one;obtain⟨o,ho,_,p3⟩:=qcz hx;have hob:h[k]? =some (.emp v):=by unfold qq at hk;exact hk
 have hor:=H.obj k _ o hob ho;have hov:o.ver=v:=by first|exact hor|exact hor.1|exact hor.1.symm|exact hor.symm
 have hx2: ∃p cap,x= .slice p 0 cap:=by
  rcases p3 hov with⟨_,_,_,e⟩|⟨b,cap,_,e,_⟩
  ·exact⟨_,_,e⟩
  ·exact⟨_,_,e⟩
 obtain⟨p,cap,rfl⟩:=hx2;refine (callsIn_wide.2 (calls_of_every_depth λD=>AnyS.slices_Sort_int_none_alone Tryz.laysS189 D p cap w)).mono ?_;rintro e w' ⟨rfl,rfl⟩;exact⟨_,σ,rfl,H,.imm (.tup rfl (λi c x hc=>by simp at hc)),Ext.refl _ _⟩
def wdN(b:List Wd)(u n:Nat):List Int:=flG (inU b (u:Int)) (λi=>(i:Int)) n
def usG(l:List Un)(b:List Wd):Nat->List Int
 |0=> []
 |u+1=>usG l b u++if brK l b u<0 then wdN b u b.length else []
theorem qCR(b:List Wd)(u n:Nat):(wdX b (u:Int) n).length=(wdN b u n).length∧ ∀i (hi:i<(wdX b (u:Int) n).length),∃(j:Nat) (w:Wd),(wdX b (u:Int) n)[i]= [.int .i64 (j:Int),.agg (wdC w)]∧(wdN b u n)[i]? =some (j:Int)∧j<n∧w=b.getD j default:=by
 refine⟨qe9 _ _ _ _,λi hi=> ?_⟩;obtain⟨r,r1,r2,r3,r4⟩:=qrt (p:=inU b (u:Int)) (g:=λi=>([.int .i64 (i:Int),.agg (wdC (b.getD i default))]:wi)) (k:=λi=>(i:Int)) (n:=n) (i:=i) hi;exact⟨r,b.getD r default,r3,r4,r1,rfl⟩
theorem qCS(b:List Wd)(u:Nat): ∀n,(wdN b u n).length<=n:=by
 intro n
 induction n with
 |zero=>exact nlr _
 |succ n ih=>
  have e:wdN b u (n+1)=wdN b u n++if inU b (u:Int) n=true then [(n:Int)] else []:=rfl
  rw[e,lap];split
  ·simp only[lco,lnl];omega
  ·simp only[lnl];omega
structure QZ where
 i:Nat
 w:Nat
 O:AObj
theorem qpt(s:Int)(n v:Nat)(ty:TypeId):lowO n (.mem v ty [.int .i64 s]):=by
 intro c hc;rw[List.mem_singleton]at hc;rw[hc];rfl
theorem qlc(x:Co)(n v:Nat)(ty:TypeId):lowO n (.mem v ty [.str x.sec,strs x.sig,qm x.tok,qo x.col]):=by
 intro c hc;simp only[List.mem_cons,List.not_mem_nil,or_false]at hc;rcases hc with rfl|rfl|rfl|rfl<;>rfl
theorem qCu(x:Co)(l:List Un)(b:List Wd)(h:wh)(hz:UW x)(hu:qaH l)(hb:b.length<=1000000)(ht: ∀i,(b.getD i default).text.length<=1000000000)(hbd:(usG l b l.length).length<=1000000)(hp:kv SG h):
  ACalls Tryz.prog 66 [.agg (coC x),zn l,jd b] h (.tup [qw (if pvE x l b=0 then qgQ (usG l b l.length) else []),.int .i64 (pvE x l b)]) h:=by
 have c38:=λl'=>pvP x l b (h++l') hz hu om ht (hp.app l')
 have hln:=hu.n;have nl0:VLe AV.nl (qw []):=zg;unfold coC at c38
 by_cases g1:pvE x l b=0
 case neg=>
  rw[ine g1];have k1:(pvE x l b=0)=False:=eqf g1;refine acO qAN ?_;simp (disch:=omega) only[qDO,coC,go_sem]
  repeat' first|(refine cA (c38 _) flk ?_;simp (disch:=omega) only[k1,go_sem])|(apply qa;exact rvk;simp only[go_sem])
  exact SK ⟨nl0,qi,trivial⟩
 rw[g1,ipo rfl];simp only[g1]at c38;refine acO qAN ?_;simp (disch:=omega) only[qDO,coC,go_sem]
 repeat' first|(refine cA (c38 _) flk ?_;simp (disch:=omega) only[go_sem])|with_reducible apply aiA
 have z3: ∀g,valL g .len [zn l]= .int .i64 l.length:=λ_=>rfl
 have z4: ∀g,okL g .len [zn l]=True:=λ_=>eqt trivial
 simp (disch:=omega) only[z4,go_sem];refine qt (T:=λs:QZ=>zw 42 [(1,zn l),(2,jd b),(9,.op (h.length+2) 1 0),(20,.int .i64 l.length),(21,.int .i64 s.i)])
  (H:=λs=>h++ [.mem 1 26 [.str x.sec,strs x.sig,qm x.tok,qo x.col],.emp 1,.mem 1 39 [.osl (h.length+4) s.w 1 0 (usG l b s.i).length],s.O,zf s.w 3 (qL (usG l b s.i))])
  (inv:=λs=>s.i<=l.length∧qK [s.O] 0=true∧ ∀n,lowO n s.O) (m:=λs=>l.length-s.i) ⟨0,0,.emp 0⟩ ⟨nzl _,rfl,λ_=>trivial⟩
  (Wk.trans (Wk.ownNil (j:=h.length+2) (i:=0) (k:=h.length+4) (v:=1) (ty:=39) (cs:= [.nl]) (ve:=0) (sz:=1) ?m1 rfl ?m2) ?m5) ?m6
 case m1=>simp only[go_sem]
 case m2=>simp only[go_sem]
 case m5=>
  have eo:zf 0 3 (qL (usG l b 0))= .emp 0:=rfl;have es:(usG l b 0).length=0:=rfl;simp only[go_sem,eo,es,List.set_cons_zero];refine Wk.temps ?_
  (simp only[go_sem,qf,qc,qb,qe];try exact we)
 case m6=>
 rintro⟨u,w0,O⟩ ⟨j1,j2,j3⟩ K hK;simp only at j1 j2 j3 hK;have j2': ∀m,qK (O::m) 0=true:=λ_=>j2
 by_cases hul:u<l.length
 ·have r1:((u:Int)<l.length)=True:=wj;have c107:=λh=>qr7 l b u h hu hb hul
  have hst:usG l b (u+1)=usG l b u++if brK l b u<0 then wdN b u b.length else []:=rfl
  obtain⟨r,hr⟩:=wg (brK l b u)
  rw[<-hr]at hst;simp only[<-hr]at c107
  by_cases g2:r<0
  case neg=>
   have k2:(0<=r)=True:=wj;rw[ine g2,lan]at hst;simp (disch:=omega) only[r1,go_sem]
   repeat' first|(refine cA (c107 _) flk ?_;simp (disch:=omega) only[k2,go_sem])
   refine hK _ _ ⟨u+1,w0,O⟩ ⟨hul,j2,j3⟩ (by simp only;omega) ?_;simp only[hst];refine Wk.temps ?_
   (simp only[go_sem,qf,qc,qb,qe];try exact we)
  have k2:(0<=r)=False:=wm;rw[ipo g2]at hst;have c108:=λh=>qGe b (u:Int) h
  obtain⟨hxl,hxg⟩:=qCR b u b.length;obtain⟨N,hN⟩:=wg (wdN b u b.length)
  rw[<-hN]at hxl hst;simp only[<-hN]at hxg;have hNl:N.length<=b.length:=by rw[hN];exact qCS _ _ _
  obtain⟨M,hM⟩:=wg (usG l b u)
  rw[<-hM]at hst;rw[<-hM];have hMl:M.length<=1000000:=by
   have hmono: ∀d,(usG l b u).length<=(usG l b (u+d)).length:=λd=>by
    induction d with
    |zero=>exact nlr _
    |succ d ih=>
     have e:usG l b (u+(d+1))=usG l b (u+d)++if brK l b (u+d)<0 then wdN b (u+d) b.length else []:=rfl
     rw[e,lap];omega
   have:=hmono (l.length-u)
   rw[show u+(l.length-u)=l.length by omega]at this;rw[hM];omega
  simp (disch:=omega) only[r1,go_sem]
  repeat' first|((first|refine cA (c107 _) ?_ ?_|refine cA (c108 _) ?_ ?_);exact flk;simp (disch:=omega) only[k2,go_sem])
  refine zB (xs:=wdX b (u:Int) b.length) (itW b (u:Int) om) ?e0
   (S:=λi hh=> ∃w O,qK [O] 0=true∧(∀n,lowO n O)∧hh=h++ [.mem 1 26 [.str x.sec,strs x.sig,qm x.tok,qo x.col],.emp 1,.mem 1 39 [.osl (h.length+4) w 1 0 (M.length+i)],O,zf w 3 (qL (M++N.take i))])
   (E:=λ_ _=>False) ?e1 (λ_ _ h=>h.elim) ?e2 ?e3 ?e4 ?e5 (λ_ _ h=>h.elim)
  case e0=>
   intro x hx;obtain⟨i,hi,e⟩:=List.getElem_of_mem hx;obtain⟨j,w,e2,_⟩:=hxg i hi;rw[<-e,e2];rfl
  case e1=>
   rintro i hh ⟨w,O1,_,l1,rfl⟩;refine LowI.app rfl (λo ho=> ?_);simp only[List.mem_cons,List.not_mem_nil,or_false]at ho;rcases ho with rfl|rfl|rfl|rfl|rfl
   ·right;exact⟨qlc _ _ _ _,qlc _ _ _ _⟩
   ·right;exact⟨trivial,trivial⟩
   ·right;constructor<;>(intro c hc;simp only[List.mem_cons,List.not_mem_nil,or_false]at hc;rcases hc with rfl;simp[qZ])
   ·right;exact⟨l1 _,l1 _⟩
   ·right;exact⟨jc (qbw _ _),jc (qbw _ _)⟩
  case e2=>
   refine⟨w0,O,j2,j3,?_⟩;simp only[List.take_zero,lan,Nat.add_zero]
  case e3=>
   have lu: ∀n,qZ n (zn l)=true:=λ_=>rfl
   have lw: ∀n,qZ n (jd b)=true:=λ_=>rfl
   simp[qZ,qZ.lowVs,lu,lw]
   try omega
  case e4=>
   rintro i hh tl LI TS hi ⟨w,O1,p1,l1,rfl⟩ hlen K4 K5 hK4 hNx hR' hX;obtain⟨j,wd,e2,e3,_,_⟩:=hxg i hi;rw[e2];rw[hxl]at hi;have p1': ∀m,qK (O1::m) 0=true:=λ_=>p1
   have hTk:N.take (i+1)=N.take i++ [(j:Int)]:=by rw[List.take_add_one,e3];rfl
   have hTl:(N.take i).length=i:=by rw[List.length_take];omega
   have eVl:=zL (M++N.take i);rw[lap,hTl]at eVl;have eVk:List.take (M.length+i) (qL (M++N.take i))=qL (M++N.take i):=ltl om;have eVn:qL (M++N.take (i+1))=qL (M++N.take i)++ [.int .i64 (j:Int)]:=by rw[hTk,<-List.append_assoc,qbv (M++N.take i)];rfl
   simp only[km];simp (disch:=omega) only[List.append_assoc,go_sem];refine hK4 _ _ (h++ [.mem 1 26 [.str x.sec,strs x.sig,qm x.tok,qo x.col],.emp 1,.mem 1 39 [.osl (h.length+4) w 1 0 (M.length+i)],O1,zf w 3 (qL (M++N.take i))]) (by simp) (by simp) ?_;simp (disch:=omega) only[List.append_assoc,p1',eVl,eVk,Nat.mul_one,go_sem]
   repeat' first|with_reducible apply aiA|exact clz|fail
   refine hNx _ _ (h++ [.mem 1 26 [.str x.sec,strs x.sig,qm x.tok,qo x.col],.emp 1,.mem 1 39 [.osl (h.length+4) (w+1) 1 0 (M.length+(i+1))],.mem (qn (some O1)+1) 3 [.int .i64 (j:Int)],zf (w+1) 3 (qL (M++N.take (i+1)))]) (by rw[eVn,List.append_assoc];rfl) (by simp)
    ⟨w+1,_,rfl,λn=>qpt _ _ _ _,rfl⟩
  case e5=>
   rintro hh ⟨w,O1,p1,l1,rfl⟩;rw[hxl,List.take_length];simp (disch:=omega) only[go_sem];refine hK _ _ ⟨u+1,w,O1⟩ ⟨hul,p1,l1⟩ (by simp only;omega) ?_;simp only[hst,lap];refine Wk.temps ?_
   (simp only[go_sem,qf,qc,qb,qe];try exact we)
 obtain rfl:u=l.length:=by omega
 have r1:((l.length:Int)<l.length)=False:=wm;obtain⟨M,hM⟩:=wg (usG l b l.length)
 rw[<-hM]at hbd ⊢;have eC:=zL (qgQ M);rw[UL]at eC
 by_cases g0:M= []
 ·subst g0;have eo:zf w0 3 (qL [])= .emp w0:=rfl;rw[eo];simp (disch:=omega) only[r1,go_sem]
  repeat' first|with_reducible apply aiA|exact clz|fail
  refine qv (qCk (h.length+4) w0 _ (by simp only[go_sem])) (by exact flk) ?_;simp (disch:=omega) only[go_sem]
  repeat' first|(apply qa;exact rvk;simp only[go_sem])|with_reducible apply aiA|exact clz|fail
  have e0:qgQ []= []:=List.length_eq_zero_iff.1 (by rw[UL];rfl);rw[e0];exact SK ⟨nl0,qi,trivial⟩
 ·have eo:zf w0 3 (qL M)= .mem w0 3 (qL M):=RR (λe=>g0 (qeb.1 e));rw[eo];simp (disch:=omega) only[r1,go_sem]
  repeat' first|with_reducible apply aiA|exact clz|fail
  refine qv (qHq M (h.length+4) w0 M.length _ rfl (by simp only[go_sem]) om) (by exact flk) ?_;simp (disch:=omega) only[go_sem]
  repeat' first|(apply qa;exact rvk;simp only[go_sem])|with_reducible apply aiA|exact clz|fail
  rw[ipo om];exact SK ⟨qbx _ (λ_=>rfl) (by rw[UL]),qi,trivial⟩
end RC
end
