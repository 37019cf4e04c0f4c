import Derived.Test.YtmieflnoheifbaaGreatDoorK15
import Derived.Test.YtmieflnoheifbaaGreatDoorK16
import Derived.Test.YtmieflnoheifbaaGreatDoorK3
import Derived.Test.YtmieflnoheifbaaGreatDoorK5
import Derived.Test.YtmieflnoheifbaaGreatDoorK8
import Derived.Test.YtmieflnoheifbaaGreatDoorProg
import Derived.Test.YtmieflnoheifbaaGreatDoorK12
import Derived.Test.YtmieflnoheifbaaGreatDoorK10
import Derived.Shelf.Strings.OnBuilder
import Derived.Test.YtmieflnoheifbaaGreatDoorK9
import Derived.Test.YtmieflnoheifbaaGreatDoorK11
import Derived.Shelf.Slices.In.SortNone
import Derived.Lib.ItoaLen
set_option linter.all false
set_option maxHeartbeats 256000000
set_option maxRecDepth 100000
section
open Go Go.Proofs AF HY LN
namespace RC
def qaS(x:Co)(l:List Un)(d:List Dc)(n:Nat):List Int:=(List.range l.length).map λk=>me x l d k n
theorem qgV(x:Co)(l:List Un)(d:List Dc)(n:Nat):(qaS x l d n).length=l.length:=by unfold qaS;simp
theorem qtX{x:Co}{l:List Un}{d:List Dc}{n k:Nat}(hk:k<l.length):(qaS x l d n).getD k 0=me x l d k n:=by
 unfold qaS;rw[gdqA,List.getElem?_map,List.getElem?_range hk];rfl
theorem qAo(x:Co)(l:List Un)(d:List Dc):qaS x l d 0=List.replicate l.length (-1):=by
 unfold qaS;refine List.ext_getElem (by simp) (λi h1 h2=> ?_);simp[me]
theorem qlu{x:Co}{l:List Un}{d:List Dc}{n k:Nat}(hk:k<l.length)(he:kQ x l (d.getD n default)=k):qaS x l d (n+1)=(qaS x l d n).set k (n:Int):=by
 unfold qaS;refine List.ext_getElem (by simp) (λi h1 h2=> ?_);rw[List.getElem_set];simp only[List.getElem_map,List.getElem_range]
 by_cases g:k=i
 ·subst g;rw[ipo rfl];unfold me;rw[ipo he]
 ·rw[ine g]
  conv=>lhs;unfold me
  rw[ine (by rw[he];omega)]
theorem qAB{x:Co}{l:List Un}{d:List Dc}{i:Nat}(hi:i<d.length):(plG x l d d.length).getD i 0=kQ x l (d.getD i default):=by
 unfold plG;rw[List.take_length,gdqA,List.getElem?_map,zD hi,gdqA,zD hi];rfl
structure EsS where
 k:Nat
 vb:Nat
 O7:AObj
 O8:AObj
 O9:AObj
 O10:AObj
 O11:AObj
 O12:AObj
def rwK(x:Co)(l:List Un)(d:List Dc)(s k:Nat):List Rw:=if k<=l.length then rwL x l d s k else rwA x l d s
def nxT(x:Co)(l:List Un)(k:Nat):Nat:=if k<=l.length then jq l k else x.col.length
theorem qdX{v n:Nat}{L:List Wd}{ty:TypeId}{fz:Nat->Bool}{h:wh}{d:Nat}(hn:n=L.length):VLe (qe4 (some (zw v ty (zG L))) v 7 0 n (rei fz h (d+1))) (kq L):=by
 subst hn;unfold zw;split
 ·rename_i e
  have:L= []:=by
   cases L with
   |nil=>rfl
   |cons a r=>exact absurd e (by simp[zG,wdC])
  subst this;rw[slOf_emp,ipo rfl];exact qU
 ·rw[slOf_mem,ipo ⟨rfl,by rw[j9];omega⟩];refine VLe.sl_eq rfl (λi hi=> ?_);simp only[Nat.zero_add];rw[qcc hi];rfl
theorem qAX{x:Co}{l:List Un}{d:List Dc}{s:Nat}: ∀ {j k:Nat},k<=j->(rwL x l d s k).length<=(rwL x l d s j).length:=by
 intro j
 induction j with
 |zero=>
  intro k h;obtain rfl:k=0:=by omega
  exact nlr _
 |succ j ih=>
  intro k h
  by_cases e:k=j+1
  ·subst e;exact nlr _
  ·refine Nat.le_trans (ih (show k<=j by omega)) ?_
   conv=>rhs;unfold rwL
   rw[lap];omega
theorem qmu{x:Co}{l:List Un}{d:List Dc}{s k:Nat}(h:k<=l.length):(rwL x l d s k).length<=(rwA x l d s).length:=by
 refine Nat.le_trans (qAX h) ?_;unfold rwA;rw[lap];omega
theorem qul{x:Co}{l:List Un}(ho:CoOk x)(hus:qbc x l=true){k:Nat}(hk:k<l.length){o:Dc}(hE:qao x l o=0): ∀p∈qnM x l k o,PcF p:=by
 obtain⟨a1,a2,a3,a4,_⟩:=UI hus hk;obtain⟨p1,p2,p3,p4,p5,p6⟩:=qap hE;intro p hp;unfold qnM at hp;split at hp
 ·have:=(qfb p4).2.1
  exact UW ho this om p hp
 ·split at hp
  ·rename_i g;obtain⟨r1,r2,r3,r4⟩:=qkr p6 g;exact qrR r2 p hp
  ·cases hp
theorem qlU{x:Co}{l:List Un}{d:List Dc}{s:Nat}(ho:CoOk x)(hus:qbc x l=true)(hs:s<x.sig.length)(hpl: ∀i,i<d.length->qao x l (d.getD i default)=0){k:Nat}(hk:k<l.length): ∀r∈rwU x l d s k,PcF r.p:=by
 obtain⟨a1,a2,a3,a4,_⟩:=UI hus hk;intro r hr;unfold rwU at hr;split at hr
 ·exact UW ho hs om _ (cF.1 hr).1
 ·rename_i g
  have:=qdE x l d k d.length
  exact qul ho hus hk (hpl _ om) _ (cF.1 hr).1
theorem qfR{x:Co}{l:List Un}{d:List Dc}{s:Nat}(ho:CoOk x)(hus:qbc x l=true)(hs:s<x.sig.length)(hpl: ∀i,i<d.length->qao x l (d.getD i default)=0): ∀ {k:Nat},k<=l.length-> ∀r∈rwL x l d s k,PcF r.p:=by
 intro k
 induction k with
 |zero=>intro _ r hr;cases hr
 |succ k ih=>
  intro hk r hr;obtain⟨a1,a2,a3,a4,_⟩:=UI hus (show k<l.length by omega);have a5:=qg1 hus (show k<l.length by omega);unfold rwL at hr;rcases List.mem_append.1 hr with hr|hr
  ·exact ih om r hr
  ·rcases List.mem_append.1 hr with hr|hr
   ·exact UW ho hs om _ (cF.1 hr).1
   ·exact qlU ho hus hs hpl om r hr
theorem qGh{hh:wh}{j k v w:Nat}(n:Nat)(a:Int)(cs:wi)(hj:qu j hh=some (.mem v 3 (.int .i64 a::cs)))(hk:qu k hh=some (.emp w))(h0:0<n)(hl:n<=1000000000):
  ACalls Tryz.prog 68 [.osl j v 1 0 1,.int .i64 (n:Int)] hh (.osl k (w+1) 1 0 n) (qt k (qt j hh (.emp (v+1))) (.mem (w+1) 3 (qM (List.replicate n a)))):=by
 have hne:j≠k:=λe=>by subst e;rw[hj]at hk;cases hk
 have hs:qz hh j=true:=by unfold qz;rw[hj]
 have e1:qbU [j] hh=qt j hh (.emp (v+1)):=by show qt j hh (.emp (qo (qu j hh)+1))=_;rw[hj];rfl
 have hk1:qu k (qt j hh (.emp (v+1)))=some (.emp w):=by rw[qT (λe=>hne e.symm)];exact hk
 refine ACalls.frzd [j] (by show (qz hh j&&true)=true;rw[hs];rfl) ?_;rw[e1];have h1:=qGi a n (qt j hh (.emp (v+1))) k (by unfold qz;rw[hk1]) h0 hl;rw[hk1]at h1;refine h1.le ⟨?_,qi,trivial⟩ (qi);have hc:=qR hj;have e: [j].contains j=true:=by simp
 simp only[go_sem,e,if_true,hc];rw[hj,slOf_mem,ipo ⟨rfl,by simp⟩];refine VLe.sl_eq rfl (λi hi=> ?_);obtain rfl:i=0:=by omega
 rfl
theorem qFB(x:Co)(l:List Un)(d:List Dc)(s:Int)(h:wh)(hz:qbd x)(hu:qcS l)(hp:cb SG h)(hg:jf h frmN frmC)(hl0:l≠ [])(hd:d.length<=1000000)(ht: ∀o∈d,o.txt.length<=1000)(hN0:vaE x l=0->(rwA x l d s.toNat).length<=1000000000):
  ACalls Tryz.prog 17 [.agg (coC x),qZ l,kz d,.int .i64 s] h (.tup [kq (esR x l d s),.int .i64 (esE x l d s)]) h:=by
 have c1:=λl'=>qsT x l (h++l') hz hu (hp.app l')
 have zu: ∀g l,valL g .len [qZ l]= .int .i64 l.length:=λ_ _=>rfl
 have zv: ∀g l,okL g .len [qZ l]=True:=λ_ _=>eqt trivial
 have zu1: ∀g l,valL g .len [strs l]= .int .i64 l.length:=λ_ _=>rfl
 have zv1: ∀g l,okL g .len [strs l]=True:=λ_ _=>eqt trivial
 have hE:esE x l d s=(if vaE x l≠0 then vaE x l else if s<0∨(x.sig.length:Int)<=s then 2 else if UY x l d≠0 then UY x l d else if 1024<(rwA x l d s.toNat).length then 4 else 0):=rfl;unfold esR
 by_cases g:vaE x l=0
 case neg=>
  have k1:(vaE x l=0)=False:=eqf g;rw[ipo g]at hE;rw[hE,ine g];unfold coC at c1;refine acO qan ?_;simp (disch:=omega) only[qfj,coC,go_sem]
  repeat' first|(refine cA (c1 _) flk ?_;simp (disch:=omega) only[k1,go_sem])|(apply qb;exact rvk;simp only[go_sem])
  exact VLe.tup ⟨qU,qi,trivial⟩
 rw[ine (by simpa using g)]at hE;have hN:=hN0 g;simp only[g]at c1;obtain⟨hca,hus,hcv⟩:=qdl g;have ho:=qag hca
 by_cases g2:s<0
 ·have k2:(s<0)=True:=eqt g2;rw[ipo (.inl g2)]at hE;rw[hE,ine (by decide)];unfold coC at c1;refine acO qan ?_;simp (disch:=omega) only[qfj,coC,go_sem]
  repeat' first|(refine cA (c1 _) flk ?_;simp (disch:=omega) only[k2,go_sem])|(apply qb;exact rvk;simp only[go_sem])
  exact VLe.tup ⟨qU,qi,trivial⟩
 have k2:(s<0)=False:=eqf g2
 by_cases g3:(x.sig.length:Int)<=s
 ·have k3:((x.sig.length:Int)<=s)=True:=eqt g3;rw[ipo (.inr g3)]at hE;rw[hE,ine (by decide)];unfold coC at c1;refine acO qan ?_;simp (disch:=omega) only[qfj,coC,go_sem]
  repeat' first|(refine cA (c1 _) flk ?_;simp (disch:=omega) only[k2,k3,zu1,zv1,go_sem])|(apply qb;exact rvk;simp only[go_sem])
  exact VLe.tup ⟨qU,qi,trivial⟩
 have k3:((x.sig.length:Int)<=s)=False:=eqf g3;rw[ine (λe=>e.elim g2 g3)]at hE;have c2:=λl'=>qDT x l d (h++l') hz hu (hp.app l') hg.app hca hd ht
 unfold qAE at c2
 by_cases g4:UY x l d=0
 case neg=>
  have k4:(UY x l d=0)=False:=eqf g4;simp only[ine g4]at c2;rw[ipo g4]at hE;rw[hE,ine g4];unfold coC at c1 c2;refine acO qan ?_;simp (disch:=omega) only[qfj,coC,go_sem]
  repeat' first|((first|refine cA (c1 _) ?_ ?_|refine cA (c2 _) ?_ ?_);exact flk;simp (disch:=omega) only[k2,k3,k4,zu1,zv1,go_sem])|(apply qb;exact rvk;simp only[go_sem])|with_reducible apply aiA|exact clz|fail
  exact VLe.tup ⟨qU,qi,trivial⟩
 rw[ine (by simpa using g4)]at hE;simp only[g4,if_true]at c2;rw[hE];unfold coC at c1 c2;refine acO qan ?_;simp (disch:=omega) only[qfj,coC,go_sem]
 repeat' first|((first|refine cA (c1 _) ?_ ?_|refine cA (c2 _) ?_ ?_);exact flk;simp (disch:=omega) only[k2,k3,zu1,zv1,zu,zv,go_sem])|with_reducible apply aiA|exact clz|fail
 have hlp:0<l.length:=List.length_pos_iff.2 hl0;refine qE (qGh (j:=h.length+2) (k:=h.length+13) (w:=0) l.length (-1) (List.drop 1 (zM [.int .i64 0] 1)) ?j1 ?j2 hlp hu.n) (by exact flk) ?_
 case j1=>simp only[go_sem]
 case j2=>simp only[go_sem]
 have zi: ∀g l,valL g .len [qx l]= .int .i64 l.length:=λ_ _=>rfl
 have zj: ∀g l,okL g .len [qx l]=True:=λ_ _=>eqt trivial
 have ePL:(plG x l d d.length).length=d.length:=by unfold plG;rw[List.length_map,List.take_length]
 simp (disch:=omega) only[zi,zj,ePL,go_sem];rw[<-qAo x l d];have hpl: ∀i,i<d.length->qao x l (d.getD i default)=0:=by
  have:=g4
  unfold UY at this;split at this
  ·cases this
  ·intro i hi;exact jW.1 this i hi
 refine qk (T:=λi:Nat=>qP 154 [(1,qZ l),(2,kz d),(3,.int .i64 s),(4,.op h.length 1 0),(13,.osl (h.length+13) 1 1 0 l.length),(55,.sl d.length λi=> [.int .i64 ((plG x l d d.length).getD i 0)]),(56,.int .i64 d.length),(57,.int .i64 i)])
  (H:=λi=>h++ [.mem 1 26 [.str x.sec,strs x.sig,qn x.tok,qv x.col],.emp 1,.emp 2,.emp 0,.emp 0,.emp 0,.emp 0,.emp 0,.emp 0,.emp 0,.emp 0,.emp 0,.emp 0,.mem 1 3 (qM (qaS x l d i)),.emp 0,.emp 0])
  (inv:=λi=>i<=d.length) (m:=λi=>d.length-i) 0 (nzl _) (Wk.temps ?_) ?_
 ·(simp only[go_sem,qf,qc,qa,qe];try (repeat' first|(with_reducible apply aiA)|(apply qg;omega)|(apply qd;rfl)|exact qi))
  have eI:qx (plG x l d d.length)= .sl d.length λi=> [.int .i64 ((plG x l d d.length).getD i 0)]:=by unfold qx;rw[ePL]
  rw[eI];exact qi
 rintro i i1 K hK;have hll:=qgV x l d i;have hlc:=ja (qaS x l d i)
 by_cases hi:i<d.length
 ·have q1:((i:Int)<d.length)=True:=wj;have q2:(0<=(i:Int))=True:=wj;have e0:=hpl i hi;obtain⟨_,_,_,_,p5,_⟩:=qap e0;obtain⟨k,hk⟩: ∃k:Nat,kQ x l (d.getD i default)=k:=⟨(kQ x l (d.getD i default)).toNat,om⟩
  have hkl:k<l.length:=by
   have:=(qla l (kD x (qX x (d.getD i default).sig).toNat (d.getD i default).tok)).2
   have h2:fnU l (kD x (qX x (d.getD i default).sig).toNat (d.getD i default).tok)=k:=hk;omega
  have q3:((k:Int)<l.length)=True:=wj;have q4:(0<=(k:Int))=True:=wj;have eA:=qAB (x:=x) (l:=l) hi;rw[hk]at eA;have hst:=qlu (n:=i) hkl hk;simp (disch:=omega) only[q1,q2,q3,q4,eA,hlc,hll,go_sem]
  repeat' first|with_reducible apply aiA|exact clz|fail
  have eB:List.take k (qM (qaS x l d i))++ [AV.int .i64 (i:Int)]++List.drop (k+1) (qM (qaS x l d i))=qM (qaS x l d (i+1)):=by
   rw[hst];unfold qM;rw[List.set_eq_take_append_cons_drop,ipo (by rw[hll];exact hkl)];simp[List.map_append,List.map_take,List.map_drop]
  rw[eB];refine hK _ _ (i+1) hi om (Wk.temps ?_)
  (simp only[go_sem,qf,qc,qa,qe];try exact we)
 ·have q1:((i:Int)<d.length)=False:=wl;obtain rfl:i=d.length:=by omega
  simp (disch:=omega) only[q1,go_sem];refine⟨_,_,Wk.ownNil (j:=h.length+3) (i:=0) (k:=h.length+15) (v:=1) (ty:=45) (cs:= [.nl]) (ve:=0) (sz:=7) ?m1 rfl ?m2,?_⟩
  case m1=>simp only[go_sem]
  case m2=>simp only[go_sem]
  have s1:=λh=>qmS h l
  have eP:=qcb l;simp (disch:=omega) only[List.set_cons_zero,go_sem];have hun:=hu.n;have bne5:(h.length+14 !=h.length+5)=true:=by simp
  have zc: ∀g l,valL g .len [qv l]= .int .i64 l.length:=λ_ _=>rfl
  have zd: ∀g l,okL g .len [qv l]=True:=λ_ _=>eqt trivial
  refine kl ?T ?H ?h1 ?h2
  case h1=>
   simp (disch:=omega) only[List.set_cons_zero,zc,zd,go_sem]
   repeat' first|(with_reducible apply aiA)|(refine qE (qFx l _ (h.length+14) (by simp only[go_sem]) hl0 hu.n) (by exact flk) ?_;simp (disch:=omega) only[List.set_cons_zero,eP,zc,zd,go_sem])
   all_goals first
    |omega
    |rfl
    |exact bne5
  case h2=>
  simp (disch:=omega) only[go_sem];obtain⟨S,hS⟩: ∃S:Nat,s=S:=⟨s.toNat,om⟩
  subst hS;rw[itn]at hN ⊢;have hSl:S<x.sig.length:=by omega
  have eTk:List.take (l.length*3) (qac l)=qac l:=ltl om;rw[eTk];obtain⟨MC,hMC⟩:=wg (qac l++ [AV.int .i64 x.col.length,.int .i64 x.col.length,.nl])
  have hMl:MC.length=(l.length+1)*3:=by rw[hMC];simp[eP];omega
  have eM1: ∀k,k<l.length->List.take 3 (List.drop (k*3) MC)=unC (l.getD k default):=λk hk=>by
   rw[hMC,List.drop_append_of_le_length om,List.take_append_of_le_length (by rw[List.length_drop];omega)];exact qho hk
  have eM2:List.take 3 (List.drop (l.length*3) MC)= [AV.int .i64 x.col.length,.int .i64 x.col.length,.nl]:=by
   rw[hMC,List.drop_append,List.drop_eq_nil_of_le om,lna,eP,Nat.sub_self];rfl
  rw[<-hMC];obtain⟨O5,hO5⟩:=wg (AObj.mem 1 39 (AV.int .i64 x.col.length:: .int .i64 x.col.length:: .nl::List.drop 3 (zM [.int .i64 0,.int .i64 0,.nl] 1)))
  rw[<-hO5];obtain⟨LST,hLST⟩: ∃L,L=AObj.mem 1 3 (qM (qaS x l d d.length)):=⟨_,rfl⟩
  have hll:=qgV x l d d.length;have hlc:=ja (qaS x l d d.length);obtain⟨X0,hX0⟩:=wg (AObj.mem 1 26 [.str x.sec,strs x.sig,qn x.tok,qv x.col])
  have lX0: ∀n,lowO n X0:=by
   intro n;rw[hX0];intro c hc;simp at hc;rcases hc with rfl|rfl|rfl|rfl<;>rfl
  refine qk (T:=λi:EsS=>qP 154 [(1,qZ l),(2,kz d),(3,.int .i64 (S:Int)),(4,.op h.length 1 0),(13,.osl (h.length+13) 1 1 0 l.length),(16,.op (h.length+3) 1 0),(17,.op (h.length+4) 1 0),(18,.int .i64 (nxT x l i.k:Int)),(78,.osl (h.length+14) 2 3 0 (l.length+1)),(79,.int .i64 ((l.length+1:Nat):Int)),(80,.int .i64 i.k)])
   (H:=λi=>h++ [.mem 1 26 [.str x.sec,strs x.sig,qn x.tok,qv x.col],.emp 1,.emp 2,.mem 1 45 [.osl (h.length+15) i.vb 7 0 (rwK x l d S i.k).length],.mem 1 135 [.fn (.func 69) [] [.op (h.length+3) 1 0]],O5,.emp 0,i.O7,i.O8,i.O9,i.O10,i.O11,i.O12,.mem 1 3 (qM (qaS x l d d.length)),.mem 2 39 MC,zw i.vb 133 (zG (bsW (rwK x l d S i.k)))])
   (inv:=λi=>i.k<=l.length+1∧ ∀O∈ [i.O7,i.O8,i.O9,i.O10,i.O11,i.O12],qz [O] 0=true∧ ∀n,lowO n O) (m:=λi=>l.length+1-i.k) ⟨0,0,.emp 0,.emp 0,.emp 0,.emp 0,.emp 0,.emp 0⟩ ⟨nzl _,λO hO=>by
    simp at hO;subst hO;exact⟨rfl,λ_=>trivial⟩⟩ (Wk.temps ?_) ?_
  ·(simp only[go_sem,qf,qc,qa,qe];try (repeat' first|(with_reducible apply aiA)|(apply qg;omega)|(apply qd;rfl)|exact qi))
   done
  rintro⟨k,vb,O7,O8,O9,O10,O11,O12⟩ ⟨i1,i2⟩ K hK;simp only at i1 i2 hK;obtain⟨s7,l7⟩:=i2 O7 (by simp);obtain⟨s8,l8⟩:=i2 O8 (by simp);obtain⟨s9,l9⟩:=i2 O9 (by simp);obtain⟨s10,l10⟩:=i2 O10 (by simp);obtain⟨s11,l11⟩:=i2 O11 (by simp);obtain⟨s12,l12⟩:=i2 O12 (by simp);have s7': ∀m,qz (O7::m) 0=true:=λ_=>s7
  have s8': ∀m,qz (O8::m) 0=true:=λ_=>s8
  by_cases hk:k<=l.length
  case neg=>
   have q1:((k:Int)<((l.length+1:Nat):Int))=False:=wl;have eR:rwK x l d S k=rwA x l d S:=by unfold rwK;rw[ine hk]
   rw[eR]
   by_cases g5:1024<(rwA x l d S).length
   ·have q5:((1024:Int)<(rwA x l d S).length)=True:=wj;simp only[ipo g5];simp (disch:=omega) only[q1,q5,go_sem]
    repeat' first|(apply qb;exact rvk;simp only[go_sem])|with_reducible apply aiA|exact clz|fail
    exact VLe.tup ⟨qU,qi,trivial⟩
   ·have q5:((1024:Int)<(rwA x l d S).length)=False:=wl;simp only[ine g5];simp (disch:=omega) only[q1,q5,go_sem]
    repeat' first|(apply qb;exact rvk;simp only[go_sem])|with_reducible apply aiA|exact clz|fail
    exact VLe.tup ⟨qdX (jx _).symm,qi,trivial⟩
  have q1:((k:Int)<((l.length+1:Nat):Int))=True:=wj;have q2:(0<=(k:Int))=True:=wj;have q3:(k*3+3<=MC.length)=True:=wj;have eR:rwK x l d S k=rwL x l d S k:=by unfold rwK;rw[ipo hk]
  have eN:nxT x l k=jq l k:=by unfold nxT;rw[ipo hk]
  rw[eR,eN];obtain⟨f,t',RV,eM,a5,a6,lRV,hA,hB⟩: ∃(f t':Nat) (RV:AV),List.take 3 (List.drop (k*3) MC)= [.int .i64 (f:Int),.int .i64 (t':Int),RV]∧jq l k<=f∧f<=x.col.length∧(∀n,qV n RV=true)∧(k<l.length->f=frN l k∧t'=toN l k∧RV=jh (l.getD k default).rds)∧(k=l.length->f=x.col.length∧t'=x.col.length):=by
   by_cases hkl:k<l.length
   ·obtain⟨a1,a2,a3,a4,_⟩:=UI hus hkl;have eM:=eM1 k hkl;unfold unC at eM;rw[a1,a2]at eM;exact⟨frN l k,toN l k,_,eM,qg1 hus hkl,om,λ_=>rfl,λ_=>⟨rfl,rfl,rfl⟩,λe=>by omega⟩
   ·obtain rfl:k=l.length:=by omega
    exact⟨x.col.length,x.col.length,.nl,eM2,qdL hus (nlr _),nlr _,λ_=>rfl,λe=>by omega,λ_=>⟨rfl,rfl⟩⟩
  have c3:=λh=>qBg x (jq l k) f S h
  have hit:=itS x S (jq l k) f hz ho hSl a6 a5;have hpF:=UW ho hSl (f:=jq l k) (d:=f-jq l k) om;obtain⟨ps,hps⟩:=wg (spk x S (jq l k) (f-jq l k))
  have hxl:(spX x S (jq l k) (f-jq l k))=ps.map λp=> [.agg (pcC p)]:=by unfold spX;rw[hps]
  rw[hxl]at hit;rw[<-hps]at hpF;unfold coC at c3 hit;simp (disch:=omega) only[q1,q2,q3,eM,s7',s8',go_sem]
  repeat' first|(refine cA (c3 _) flk ?_;simp (disch:=omega) only[go_sem])
  obtain⟨L0,hL0⟩:=wg (rwL x l d S k)
  have hLF: ∀r∈L0,PcF r.p:=by rw[hL0];exact qfR ho hus hSl hpl hk
  have hLn:(L0++rwM ps (-1) (-1)).length<=1000000000:=by
   refine Nat.le_trans ?_ hN
   by_cases hkl:k<l.length
   ·obtain⟨b1,_⟩:=hA hkl;refine Nat.le_trans ?_ (qmu (show k+1<=l.length by omega));rw[hL0,hps,b1]
    conv=>rhs;unfold rwL
    rw[lap,lap,lap];show _<=_+((rwM _ _ _).length+_);omega
   ·obtain⟨b1,_⟩:=hB om;have hke:k=l.length:=by omega
    rw[hL0,hps,b1,hke];exact nlr _
  rw[<-hL0];obtain⟨P7,hP7⟩:=wg (AObj.mem (qo (some O7)+1) 3 [.int .i64 (k:Int)])
  obtain⟨P8,hP8⟩:=wg (AObj.mem (qo (some O8)+1) 39 [.int .i64 (f:Int),.int .i64 (t':Int),RV])
  have hP7l:qz [P7] 0=true∧ ∀n,lowO n P7:=by
   rw[hP7];refine⟨rfl,λn c hc=> ?_⟩;rw[List.mem_singleton]at hc;subst hc;rfl
  have hP8l:qz [P8] 0=true∧ ∀n,lowO n P8:=by
   rw[hP8];refine⟨rfl,λn c hc=> ?_⟩;simp only[List.mem_cons,List.not_mem_nil,or_false]at hc;rcases hc with rfl|rfl|rfl
   ·rfl
   ·rfl
   ·exact lRV n
  have cP7: ∀m,cellsOf (P7::m) 0 (qo (some O7)+1)=some [.int .i64 (k:Int)]:=λm=>by rw[hP7];simp only[go_sem]
  rw[<-hP7,<-hP8];have lP: ∀L:List Rw,∀v n,lowO n (zw v 133 (zG (bsW L))):=λL v n=>jE (qcd _ n)
  have hLow: ∀(L M:List Rw) (v w:Nat) O A,(∀n,lowO n A)->LowI (h++ [.mem 1 26 [.str x.sec,strs x.sig,qn x.tok,qv x.col],.emp 1,.emp 2,.mem 1 45 [.osl (h.length+15) w 7 0 M.length],.mem 1 135 [.fn (.func 69) [] [.op (h.length+3) 1 0]],O5,.emp 0,P7,P8,O,O10,O11,O12,.mem 1 3 (qM (qaS x l d d.length)),.mem 2 39 MC,zw w 133 (zG (bsW M))])
    (h++ [.mem 1 26 [.str x.sec,strs x.sig,qn x.tok,qv x.col],.emp 1,.emp 2,.mem 1 45 [.osl (h.length+15) v 7 0 L.length],.mem 1 135 [.fn (.func 69) [] [.op (h.length+3) 1 0]],O5,.emp 0,P7,P8,A,O10,O11,O12,.mem 1 3 (qM (qaS x l d d.length)),.mem 2 39 MC,zw v 133 (zG (bsW L))]):=λL M v w O A lA=>by
   refine⟨by simp,λo ho=> ?_⟩;rcases List.mem_append.1 ho with h1|h1
   ·exact .inl (List.mem_append_left _ h1)
   ·simp only[List.mem_cons,List.not_mem_nil,or_false]at h1;rcases h1 with rfl|rfl|rfl|rfl|rfl|rfl|rfl|rfl|rfl|rfl|rfl|rfl|rfl|rfl|rfl|rfl
    ·left;simp
    ·left;simp
    ·left;simp
    ·right;refine⟨λc hc=> ?_,λc hc=> ?_⟩<;>
     ·rw[List.mem_singleton]at hc;subst hc;simp[qV]
      try omega
    ·left;simp
    ·left;simp
    ·left;simp
    ·left;simp
    ·left;simp
    ·right;exact⟨lA _,lA _⟩
    ·left;simp
    ·left;simp
    ·left;simp
    ·left;simp
    ·left;simp
    ·right;exact⟨lP _ _ _,lP _ _ _⟩
  refine zJ hit (λa ha=> ?_)
   (S:=λi hh=> ∃A,qz [A] 0=true∧(∀n,lowO n A)∧hh=h++ [.mem 1 26 [.str x.sec,strs x.sig,qn x.tok,qv x.col],.emp 1,.emp 2,.mem 1 45 [.osl (h.length+15) (vb+i) 7 0 (L0++rwM (ps.take i) (-1) (-1)).length],.mem 1 135 [.fn (.func 69) [] [.op (h.length+3) 1 0]],O5,.emp 0,P7,P8,A,O10,O11,O12,.mem 1 3 (qM (qaS x l d d.length)),.mem 2 39 MC,zw (vb+i) 133 (zG (bsW (L0++rwM (ps.take i) (-1) (-1))))]) (E:=λ_ _=>False) ?_ ?_ ?_ ?_ ?_ ?_ ?_
  ·obtain⟨c,_,rfl⟩:=List.mem_map.1 ha;rfl
  ·rintro i hh ⟨A,_,lA,rfl⟩;exact hLow _ _ _ _ _ _ lA
  ·intro s hh hf;exact hf.elim
  ·exact⟨O9,s9,l9,by simp[rwM]⟩
  ·simp[qV,qV.lowVs]
   repeat' apply aiA
   all_goals first|rfl|omega|exact lRV _
  ·rintro i hh tl LI TS hi ⟨A,sA,lA,rfl⟩ hlen K1 K2 hK1 hN1 hR1 hX1;have hi':i<ps.length:=by rw[List.length_map]at hi;exact hi
   rw[List.getElem_map];have sA': ∀m,qz (A::m) 0=true:=λ_=>sA
   have hS:L0++rwM (ps.take (i+1)) (-1) (-1)=(L0++rwM (ps.take i) (-1) (-1))++ [⟨ps.getD i default,-1,-1⟩]:=by
    unfold rwM;rw[List.take_add_one,zD hi',List.map_append,gdqA,zD hi',List.append_assoc];rfl
   have eG:ps[i]=ps.getD i default:=by rw[gdqA,zD hi'];rfl
   rw[eG];have hpm:ps.getD i default∈ps:=zS hi';obtain⟨p,hp'⟩:=wg (ps.getD i default)
   rw[<-hp']at hS hpm ⊢;obtain⟨M,hM⟩:=wg (L0++rwM (ps.take i) (-1) (-1))
   have hMF: ∀r∈M,PcF r.p:=λr hr=>by
    rw[hM]at hr;rcases List.mem_append.1 hr with hr|hr
    ·exact hLF r hr
    ·exact hpF _ (List.mem_of_mem_take (cF.1 hr).1)
   have hMn:M.length<=1000000000:=by
    rw[hM,lap,jr,List.length_take];rw[lap,jr]at hLn;omega
   rw[<-hM]at hS ⊢;simp only[kN,List.append_assoc,lca,lna];simp (disch:=omega) only[sA',pcC,tkC,go_sem];refine hK1 _ _ (h++ [.mem 1 26 [.str x.sec,strs x.sig,qn x.tok,qv x.col],.emp 1,.emp 2,.mem 1 45 [.osl (h.length+15) (vb+i) 7 0 M.length],.mem 1 135 [.fn (.func 69) [] [.op (h.length+3) 1 0]],O5,.emp 0,P7,P8,(.mem (qo (some A)+1) 131 (pcC p)),O10,O11,O12,.mem 1 3 (qM (qaS x l d d.length)),.mem 2 39 MC,zw (vb+i) 133 (zG (bsW M))]) ?_ ?_ ?_
   ·simp[pcC,tkC]
   ·simp
   ·simp only[List.append_assoc,lca,lna];simp (disch:=omega) only[pcC,tkC,go_sem]
    repeat' first|with_reducible apply aiA|exact clz|fail
    refine kC (qvR (a:=h.length+3) (b:=h.length+15) (c:=h.length) (va:=1) (vb:=vb+i) (Z:= .mem 1 26 [.str x.sec,strs x.sig,qn x.tok,qv x.col]) ⟨by simp,by simp,by simp,om,om,om⟩ M p (-1) (-1) (by simp only[go_sem]) (by simp only[go_sem]) (by simp only[go_sem]) (by rw[<-hX0];exact lX0) (hpF p hpm) hMn hMF) ?_;simp (disch:=omega) only[go_sem];refine hN1 _ _ (h++ [.mem 1 26 [.str x.sec,strs x.sig,qn x.tok,qv x.col],.emp 1,.emp 2,.mem 1 45 [.osl (h.length+15) (vb+(i+1)) 7 0 (M++ [(⟨p,-1,-1⟩:Rw)]).length],.mem 1 135 [.fn (.func 69) [] [.op (h.length+3) 1 0]],O5,.emp 0,P7,P8,(.mem (qo (some A)+1) 131 (pcC p)),O10,O11,O12,.mem 1 3 (qM (qaS x l d d.length)),.mem 2 39 MC,zw (vb+(i+1)) 133 (zG (bsW (M++ [(⟨p,-1,-1⟩:Rw)])))]) ?_ ?_ ⟨_,rfl,?_,by rw[hS]⟩
    ·simp[pcC,tkC,Nat.add_assoc]
    ·simp
    ·intro n c hc;simp[pcC,tkC]at hc;rcases hc with rfl|rfl|rfl|rfl|rfl|rfl|rfl<;>rfl
  ·rintro hh ⟨A,sA,lA,rfl⟩;rw[List.length_map,List.take_length];obtain⟨L1,hL1⟩:=wg (L0++rwM ps (-1) (-1))
   rw[<-hL1]
   by_cases hkl:k<l.length
   case neg=>
    have hke:k=l.length:=by omega
    obtain⟨b1,b2⟩:=hB hke;have q4:((k:Int)=l.length)=True:=wj;rw[hP7,hP8];simp (disch:=omega) only[q4,zu,zv,go_sem]
    repeat' first|with_reducible apply aiA|exact clz|fail
    rw[<-hP7,<-hP8];have e1:rwK x l d S (k+1)=L1:=by
     unfold rwK;rw[ine om,hL1,hL0,hps,b1,hke];rfl
    have e2:nxT x l (k+1)=t':=by unfold nxT;rw[ine om,b2]
    refine hK _ _ ⟨k+1,vb+ps.length,P7,P8,A,O10,O11,O12⟩ ⟨by simp only;omega,λO hO=> ?_⟩ (by simp only;omega) ?_
    ·simp only[List.mem_cons,List.not_mem_nil,or_false]at hO;rcases hO with rfl|rfl|rfl|rfl|rfl|rfl
     ·exact hP7l
     ·exact hP8l
     ·exact⟨sA,lA⟩
     ·exact⟨s10,l10⟩
     ·exact⟨s11,l11⟩
     ·exact⟨s12,l12⟩
    ·simp only[e1,e2];refine Wk.temps ?_
     (simp only[go_sem,qf,qc,qa,qe];try exact we)
   obtain⟨b1,b2,b3⟩:=hA hkl;have q4:((k:Int)=l.length)=False:=wl;have q5:((k:Int)<l.length)=True:=wj;have q6:(k<l.length)=True:=eqt hkl;have eLs:(qM (qaS x l d d.length))[k]? =some (.int .i64 (me x l d k d.length)):=by
    unfold qM
    have:=qtX (x:=x) (d:=d) (n:=d.length) hkl
    rw[List.getElem?_map,zD (by rw[hll];exact hkl)];rw[gdqA,zD (by rw[hll];exact hkl)]at this;rw[<-this];rfl
   obtain⟨D,hD⟩:=wg (me x l d k d.length)
   rw[<-hD]at eLs;rw[hP7,hP8]
   by_cases g6:D<0
   ·have q7:(D<0)=True:=eqt g6;have c4:=λh=>qBg x f t' S h
    unfold coC at c4;simp (disch:=omega) only[q2,q4,q5,q6,q7,hlc,hll,eLs,zu,zv,go_sem]
    repeat' first|(refine cA (c4 _) flk ?_;simp (disch:=omega) only[go_sem])|with_reducible apply aiA|exact clz|fail
    rw[<-hP7,<-hP8];obtain⟨A0,hA0⟩:=wg A
    rw[<-hA0];obtain⟨vc,hvc⟩:=wg (vb+ps.length)
    rw[<-hvc];obtain⟨_,_,a3,a4,_⟩:=UI hus hkl;have hit2:=itS x S f t' hz ho hSl om om;have hpF2:=UW ho hSl (f:=f) (d:=t'-f) om;obtain⟨qs,hqs⟩:=wg (spk x S f (t'-f))
    have hxl2:(spX x S f (t'-f))=qs.map λp=> [.agg (pcC p)]:=by unfold spX;rw[hqs]
    rw[hxl2]at hit2;rw[<-hqs]at hpF2;unfold coC at hit2;have eR1:rwK x l d S (k+1)=L1++rwM qs (k:Int) (-1):=by
     unfold rwK;rw[ipo om];show rwL x l d S k++(rwC x S (jq l k) (frN l k)++rwU x l d S k)=_;unfold rwU;rw[ipo (by rw[<-hD];exact g6),hL1,hL0,hps,hqs,b1,b2,List.append_assoc];rfl
    have hLF2: ∀r∈L1,PcF r.p:=λr hr=>by
     rw[hL1]at hr;rcases List.mem_append.1 hr with hr|hr
     ·exact hLF r hr
     ·exact hpF _ (cF.1 hr).1
    have hLn2:(L1++rwM qs (k:Int) (-1)).length<=1000000000:=by
     rw[<-eR1];unfold rwK;rw[ipo om];exact Nat.le_trans (qmu (show k+1<=l.length by omega)) hN
    have hLow2: ∀(L M:List Rw) (v w:Nat) O A,(∀n,lowO n A)->LowI (h++ [.mem 1 26 [.str x.sec,strs x.sig,qn x.tok,qv x.col],.emp 1,.emp 2,.mem 1 45 [.osl (h.length+15) w 7 0 M.length],.mem 1 135 [.fn (.func 69) [] [.op (h.length+3) 1 0]],O5,.emp 0,P7,P8,A0,O,O11,O12,.mem 1 3 (qM (qaS x l d d.length)),.mem 2 39 MC,zw w 133 (zG (bsW M))])
      (h++ [.mem 1 26 [.str x.sec,strs x.sig,qn x.tok,qv x.col],.emp 1,.emp 2,.mem 1 45 [.osl (h.length+15) v 7 0 L.length],.mem 1 135 [.fn (.func 69) [] [.op (h.length+3) 1 0]],O5,.emp 0,P7,P8,A0,A,O11,O12,.mem 1 3 (qM (qaS x l d d.length)),.mem 2 39 MC,zw v 133 (zG (bsW L))]):=λL M v w O A lA=>by
     refine⟨by simp,λo ho=> ?_⟩;rcases List.mem_append.1 ho with h1|h1
     ·exact .inl (List.mem_append_left _ h1)
     ·simp only[List.mem_cons,List.not_mem_nil,or_false]at h1;rcases h1 with rfl|rfl|rfl|rfl|rfl|rfl|rfl|rfl|rfl|rfl|rfl|rfl|rfl|rfl|rfl|rfl
      ·left;simp
      ·left;simp
      ·left;simp
      ·right;refine⟨λc hc=> ?_,λc hc=> ?_⟩<;>
       ·rw[List.mem_singleton]at hc;subst hc;simp[qV]
        try omega
      ·left;simp
      ·left;simp
      ·left;simp
      ·left;simp
      ·left;simp
      ·left;simp
      ·right;exact⟨lA _,lA _⟩
      ·left;simp
      ·left;simp
      ·left;simp
      ·left;simp
      ·right;exact⟨lP _ _ _,lP _ _ _⟩
    refine zJ hit2 (λa ha=> ?_)
     (S:=λi hh=> ∃A,qz [A] 0=true∧(∀n,lowO n A)∧hh=h++ [.mem 1 26 [.str x.sec,strs x.sig,qn x.tok,qv x.col],.emp 1,.emp 2,.mem 1 45 [.osl (h.length+15) (vc+i) 7 0 (L1++rwM (qs.take i) (k:Int) (-1)).length],.mem 1 135 [.fn (.func 69) [] [.op (h.length+3) 1 0]],O5,.emp 0,P7,P8,A0,A,O11,O12,.mem 1 3 (qM (qaS x l d d.length)),.mem 2 39 MC,zw (vc+i) 133 (zG (bsW (L1++rwM (qs.take i) (k:Int) (-1))))]) (E:=λ_ _=>False) ?_ ?_ ?_ ?_ ?_ ?_ ?_
    ·obtain⟨c,_,rfl⟩:=List.mem_map.1 ha;rfl
    ·rintro i hh ⟨A,_,lA,rfl⟩;exact hLow2 _ _ _ _ _ _ lA
    ·intro s hh hf;exact hf.elim
    ·exact⟨O10,s10,l10,by simp[rwM]⟩
    ·simp[qV,qV.lowVs]
     repeat' apply aiA
     all_goals first|rfl|omega|exact lRV _
    ·rintro i hh tl LI TS hi ⟨A,sA,lA,rfl⟩ hlen K1 K2 hK1 hN1 hR1 hX1;have hi':i<qs.length:=by rw[List.length_map]at hi;exact hi
     rw[List.getElem_map];have sA': ∀m,qz (A::m) 0=true:=λ_=>sA
     have hS:L1++rwM (qs.take (i+1)) (k:Int) (-1)=(L1++rwM (qs.take i) (k:Int) (-1))++ [⟨qs.getD i default,(k:Int),-1⟩]:=by
      unfold rwM;rw[List.take_add_one,zD hi',List.map_append,gdqA,zD hi',List.append_assoc];rfl
     have eG:qs[i]=qs.getD i default:=by rw[gdqA,zD hi'];rfl
     rw[eG];have hpm:qs.getD i default∈qs:=zS hi';obtain⟨p,hp'⟩:=wg (qs.getD i default)
     rw[<-hp']at hS hpm ⊢;obtain⟨M,hM⟩:=wg (L1++rwM (qs.take i) (k:Int) (-1))
     have hMF: ∀r∈M,PcF r.p:=λr hr=>by
      rw[hM]at hr;rcases List.mem_append.1 hr with hr|hr
      ·exact hLF2 r hr
      ·exact hpF2 _ (List.mem_of_mem_take (cF.1 hr).1)
     have hMn:M.length<=1000000000:=by
      rw[hM,lap,jr,List.length_take];rw[lap,jr]at hLn2;omega
     rw[<-hM]at hS ⊢;simp only[kN,List.append_assoc,lca,lna];simp (disch:=omega) only[sA',pcC,tkC,go_sem];refine hK1 _ _ (h++ [.mem 1 26 [.str x.sec,strs x.sig,qn x.tok,qv x.col],.emp 1,.emp 2,.mem 1 45 [.osl (h.length+15) (vc+i) 7 0 M.length],.mem 1 135 [.fn (.func 69) [] [.op (h.length+3) 1 0]],O5,.emp 0,P7,P8,A0,(.mem (qo (some A)+1) 131 (pcC p)),O11,O12,.mem 1 3 (qM (qaS x l d d.length)),.mem 2 39 MC,zw (vc+i) 133 (zG (bsW M))]) ?_ ?_ ?_
     ·simp[pcC,tkC]
     ·simp
     ·simp only[List.append_assoc,lca,lna];simp (disch:=omega) only[pcC,tkC,cP7,go_sem]
      repeat' first|with_reducible apply aiA|exact clz|fail
      refine kC (qvR (a:=h.length+3) (b:=h.length+15) (c:=h.length) (va:=1) (vb:=vc+i) (Z:= .mem 1 26 [.str x.sec,strs x.sig,qn x.tok,qv x.col]) ⟨by simp,by simp,by simp,om,om,om⟩ M p (k:Int) (-1) (by simp only[go_sem]) (by simp only[go_sem]) (by simp only[go_sem]) (by rw[<-hX0];exact lX0) (hpF2 p hpm) hMn hMF) ?_;simp (disch:=omega) only[go_sem];refine hN1 _ _ (h++ [.mem 1 26 [.str x.sec,strs x.sig,qn x.tok,qv x.col],.emp 1,.emp 2,.mem 1 45 [.osl (h.length+15) (vc+(i+1)) 7 0 (M++ [(⟨p,(k:Int),-1⟩:Rw)]).length],.mem 1 135 [.fn (.func 69) [] [.op (h.length+3) 1 0]],O5,.emp 0,P7,P8,A0,(.mem (qo (some A)+1) 131 (pcC p)),O11,O12,.mem 1 3 (qM (qaS x l d d.length)),.mem 2 39 MC,zw (vc+(i+1)) 133 (zG (bsW (M++ [(⟨p,(k:Int),-1⟩:Rw)])))]) ?_ ?_ ⟨_,rfl,?_,by rw[hS]⟩
      ·simp[pcC,tkC,Nat.add_assoc]
      ·simp
      ·intro n c hc;simp[pcC,tkC]at hc;rcases hc with rfl|rfl|rfl|rfl|rfl|rfl|rfl<;>rfl
    ·rintro hh ⟨B,sB,lB,rfl⟩;rw[List.length_map,List.take_length];simp (disch:=omega) only[go_sem];have e2:nxT x l (k+1)=t':=by
      unfold nxT;rw[ipo om,b2];unfold jq;rw[ine om,Nat.add_sub_cancel]
     refine hK _ _ ⟨k+1,vc+qs.length,P7,P8,A0,B,O11,O12⟩ ⟨by simp only;omega,λO hO=> ?_⟩ (by simp only;omega) ?_
     ·simp only[List.mem_cons,List.not_mem_nil,or_false]at hO;rcases hO with rfl|rfl|rfl|rfl|rfl|rfl
      ·exact hP7l
      ·exact hP8l
      ·rw[hA0];exact⟨sA,lA⟩
      ·exact⟨sB,lB⟩
      ·exact⟨s11,l11⟩
      ·exact⟨s12,l12⟩
     ·simp only[eR1,e2];refine Wk.temps ?_
      (simp only[go_sem,qf,qc,qa,qe];try exact we)
    ·intro e hh hf;exact hf.elim
   ·have q7:(D<0)=False:=eqf g6;obtain⟨j,hj⟩: ∃j:Nat,D=j:=⟨D.toNat,om⟩
    have hjd:j<d.length:=by
     have:=(qdE x l d k d.length).2
     omega
    rw[hj]at eLs hD q7;have q8:(0<=(j:Int))=True:=wj;have q9:((j:Int)<d.length)=True:=wj;have s11': ∀m,qz (O11::m) 0=true:=λ_=>s11
    have e0:=hpl j hjd;have eU:kQ x l (d.getD j default)=k:=qtW (n:=d.length) hD.symm;obtain⟨o,ho'⟩:=wg (d.getD j default)
    have eo:=ho'.symm;rw[eo]at e0 eU;have hot:o.txt.length<=1000:=ht o (by rw[ho'];exact zS hjd);obtain⟨p1,p2,p3,p4,p5,p6⟩:=qap e0;have c5:=λh=>qFZ h
    have zp: ∀g l,valL g .len [qek l]= .int .i64 l.length:=λ_ _=>rfl
    have zq: ∀g l,okL g .len [qek l]=True:=λ_ _=>eqt trivial
    have k7:(0<=o.kind)=True:=wj;have k8:(o.kind<4)=True:=wj;obtain⟨_,_,a3,a4,_⟩:=UI hus hkl;obtain⟨fid,qs,eIx,c6,eqs,hpF2⟩: ∃(fid:Nat) (qs:List Pc),[AV.nilfn,AV.fn (.func 147) [] [],AV.fn (.func 149) [] [],AV.fn (.func 151) [] []][Int.toNat o.kind]?.getD AV.undef= .fn (.func fid) [] []∧(∀l',ACalls Tryz.prog fid [.agg [.str x.sec,strs x.sig,qn x.tok,qv x.col],.agg [.int .i64 (f:Int),.int .i64 (t':Int),RV],.agg [.int .i64 o.kind,.str o.sig,.int .i64 o.tok,.str o.txt]] (h++l') (qek qs) (h++l'))∧qs=qnM x l k o∧ ∀p∈qs,PcF p:=by
     obtain⟨a1,a2,_⟩:=UI hus hkl;rcases (show o.kind=1∨o.kind=2∨o.kind=3 by omega)with g7|g7|g7
     ·obtain⟨S1,hS1⟩: ∃S1:Nat,qX x o.sig=S1:=⟨(qX x o.sig).toNat,by have:=(qfb p4).1;omega⟩
      have hS1l:S1<x.sig.length:=by have:=(qfb p4).2.1;omega
      refine⟨147,spk x S1 f (t'-f),by rw[g7];rfl,λl'=> ?_,?_,UW ho hS1l om⟩
      ·have c6:=qFW x (l.getD k default) o S1 f t' (h++l') hz ho hS1 hS1l (by rw[a1,b1]) (by rw[a2,b2]) om om;unfold coC unC dcC at c6;rw[a1,a2,<-b1,<-b2,<-b3]at c6;exact c6
      ·unfold qnM;rw[ipo g7,hS1,itn,b1,b2]
     ·obtain⟨r1,r2,r3,r4⟩:=qkr p6 g7;refine⟨149,cjP (qav o.txt) (f:Int),by rw[g7];rfl,λl'=> ?_,?_,qrR r2⟩
      ·have c6:=qFX x (l.getD k default) o (h++l') hot r4 r1 r2 hg.app;unfold coC unC dcC at c6;rw[a1,a2,<-b1,<-b2,<-b3]at c6;exact c6
      ·unfold qnM cjP;rw[ine (by rw[g7];decide),ipo g7,a1,b1]
     ·refine⟨151,[],by rw[g7];rfl,λl'=> ?_,?_,λp hp=>by cases hp⟩
      ·have c6:=qFY x (l.getD k default) o (h++l');unfold coC unC dcC at c6;rw[a1,a2,<-b1,<-b2,<-b3]at c6;exact c6
      ·unfold qnM;rw[ine (by rw[g7];decide),ine (by rw[g7];decide)]
    simp (disch:=omega) only[q2,q4,q5,q6,q7,q8,q9,hlc,hll,eLs,zu,zv,kz,dcC,eo,s11',go_sem]
    repeat' first|with_reducible apply aiA|exact clz|fail
    refine kl ?Ta ?Ha ?h1 ?h2
    case h1=>
     simp (disch:=omega) only[go_sem]
     repeat' first|(refine cU (λ_=>c5 _) flk ?_;simp (disch:=omega) only[k7,go_sem])|with_reducible apply aiA
     all_goals first
      |omega
      |rfl
      |skip
     rw[eIx];refine qj7 (c6 _) (by exact flk) ?_;simp (disch:=omega) only[zp,zq,go_sem]
     repeat' first|with_reducible apply aiA
     all_goals first
      |omega
      |rfl
      |skip
    case h2=>
    rw[<-hP7,<-hP8];obtain⟨P11,hP11⟩:=wg (AObj.mem (qo (some O11)+1) 65 [.int .i64 o.kind,.str o.sig,.int .i64 o.tok,.str o.txt])
    rw[<-hP11];have eR1:rwK x l d S (k+1)=L1++rwM qs (k:Int) (j:Int):=by
     unfold rwK;rw[ipo om];show rwL x l d S k++(rwC x S (jq l k) (frN l k)++rwU x l d S k)=_;unfold rwU;rw[<-hD,ine om,itn,eo,hL1,hL0,hps,eqs,b1,List.append_assoc];rfl
    have hLF2: ∀r∈L1,PcF r.p:=λr hr=>by
     rw[hL1]at hr;rcases List.mem_append.1 hr with hr|hr
     ·exact hLF r hr
     ·exact hpF _ (cF.1 hr).1
    have hLn2:(L1++rwM qs (k:Int) (j:Int)).length<=1000000000:=by
     rw[<-eR1];unfold rwK;rw[ipo om];exact Nat.le_trans (qmu (show k+1<=l.length by omega)) hN
    simp (disch:=omega) only[go_sem];have hqn:qs.length<=1000000000:=by rw[lap,jr]at hLn2;omega
    refine qk (T:=λi:Nat×AObj=>qP 154 [(1,qZ l),(2,kz d),(3,.int .i64 (S:Int)),(4,.op h.length 1 0),(13,.osl (h.length+13) 1 1 0 l.length),(16,.op (h.length+3) 1 0),(17,.op (h.length+4) 1 0),(18,.int .i64 (t':Int)),(19,.op (h.length+7) (qo (some O7)+1) 0),(78,.osl (h.length+14) 2 3 0 (l.length+1)),(79,.int .i64 ((l.length+1:Nat):Int)),(80,.int .i64 (k:Int)),(111,qek qs),(112,.int .i64 qs.length),(113,.int .i64 i.1)])
     (H:=λi=>h++ [.mem 1 26 [.str x.sec,strs x.sig,qn x.tok,qv x.col],.emp 1,.emp 2,.mem 1 45 [.osl (h.length+15) (vb+ps.length+i.1) 7 0 (L1++rwM (qs.take i.1) (k:Int) (j:Int)).length],.mem 1 135 [.fn (.func 69) [] [.op (h.length+3) 1 0]],O5,.emp 0,P7,P8,A,O10,P11,i.2,.mem 1 3 (qM (qaS x l d d.length)),.mem 2 39 MC,zw (vb+ps.length+i.1) 133 (zG (bsW (L1++rwM (qs.take i.1) (k:Int) (j:Int))))])
     (inv:=λi=>i.1<=qs.length∧qz [i.2] 0=true∧ ∀n,lowO n i.2) (m:=λi=>qs.length-i.1) (0,O12) ⟨nzl _,s12,l12⟩ ?_ ?_
    ·simp only[List.take_zero,rwM,List.map_nil,lan,Nat.add_zero];refine Wk.temps ?_
     (simp only[kz,dcC,go_sem,qf,qc,qa,qe];try exact we)
    rintro⟨i,B⟩ ⟨j1,j2,j3⟩ K3 hK3;simp only at j1 j2 j3 hK3;have j2': ∀m,qz (B::m) 0=true:=λ_=>j2
    by_cases hi:i<qs.length
    ·have w1:((i:Int)<qs.length)=True:=wj;have w2:(0<=(i:Int))=True:=wj;have hS:L1++rwM (qs.take (i+1)) (k:Int) (j:Int)=(L1++rwM (qs.take i) (k:Int) (j:Int))++ [⟨qs.getD i default,(k:Int),(j:Int)⟩]:=by
      unfold rwM;rw[List.take_add_one,zD hi,List.map_append,gdqA,zD hi,List.append_assoc];rfl
     have hpm:qs.getD i default∈qs:=zS hi;obtain⟨p,hp'⟩:=wg (qs.getD i default)
     have ep:=hp'.symm;rw[<-hp']at hS hpm;obtain⟨M,hM⟩:=wg (L1++rwM (qs.take i) (k:Int) (j:Int))
     have hMF: ∀r∈M,PcF r.p:=λr hr=>by
      rw[hM]at hr;rcases List.mem_append.1 hr with hr|hr
      ·exact hLF2 r hr
      ·exact hpF2 _ (List.mem_of_mem_take (cF.1 hr).1)
     have hMn:M.length<=1000000000:=by
      rw[hM,lap,jr,List.length_take];rw[lap,jr]at hLn2;omega
     rw[<-hM]at hS ⊢;simp (disch:=omega) only[qek,pcC,tkC,w1,w2,ep,j2',cP7,q2,q5,q6,eLs,hlc,hll,go_sem]
     repeat' first|with_reducible apply aiA|exact clz|fail
     refine kC (qvR (a:=h.length+3) (b:=h.length+15) (c:=h.length) (va:=1) (vb:=vb+ps.length+i) (Z:= .mem 1 26 [.str x.sec,strs x.sig,qn x.tok,qv x.col]) ⟨by simp,by simp,by simp,om,om,om⟩ M p (k:Int) (j:Int) (by simp only[go_sem]) (by simp only[go_sem]) (by simp only[go_sem]) (by rw[<-hX0];exact lX0) (hpF2 p hpm) hMn hMF) ?_;simp (disch:=omega) only[go_sem];refine hK3 _ _ (i+1,.mem (qo (some B)+1) 131 (pcC p)) ⟨hi,rfl,λn c hc=> ?_⟩ (by simp only;omega) ?_
     ·simp[pcC,tkC]at hc;rcases hc with rfl|rfl|rfl|rfl|rfl|rfl|rfl<;>rfl
     ·simp only[hS,pcC,tkC,lap,lco,lnl,lca,lna,Nat.zero_add];refine Wk.temps ?_
      (simp only[kz,dcC,go_sem,qf,qc,qa,qe];try exact we)
    ·have w1:((i:Int)<qs.length)=False:=wl;obtain rfl:i=qs.length:=by omega
     rw[List.take_length];simp (disch:=omega) only[w1,go_sem];have e2:nxT x l (k+1)=t':=by
      unfold nxT;rw[ipo om,b2];unfold jq;rw[ine om,Nat.add_sub_cancel]
     refine hK _ _ ⟨k+1,vb+ps.length+qs.length,P7,P8,A,O10,P11,B⟩ ⟨by simp only;omega,λO hO=> ?_⟩ (by simp only;omega) ?_
     ·simp only[List.mem_cons,List.not_mem_nil,or_false]at hO;rcases hO with rfl|rfl|rfl|rfl|rfl|rfl
      ·exact hP7l
      ·exact hP8l
      ·exact⟨sA,lA⟩
      ·exact⟨s10,l10⟩
      ·rw[hP11];refine⟨rfl,λn c hc=> ?_⟩;simp at hc;rcases hc with rfl|rfl|rfl|rfl<;>rfl
      ·exact⟨j2,j3⟩
     ·simp only[eR1,e2];refine Wk.temps ?_
      (simp only[go_sem,qf,qc,qa,qe];try exact we)
  ·intro e hh hf;exact hf.elim
def chK(l:List Un)(b:List Wd)(k:Nat):Int:=qbK (l.getD k default).rds (owG b k b.length)
theorem qpU{L:List Rd}{n:Nat}(h:qfn L n){w:List Str}{j:Nat}:qbK L w=(j:Int)↔j<L.length∧(L.getD j default).words=w:=by
 rcases kA L w with⟨i,h1,h2,h3⟩|⟨h1,h2⟩
 ·rw[h3];constructor
  ·intro e;have e:i=j:=by omega
   subst e;exact⟨h1,h2⟩
  ·rintro⟨h4,h5⟩;rcases Nat.lt_trichotomy i j with e|e|e
   ·exact absurd (h2.trans h5.symm) (h.ne i j e h4)
   ·rw[e]
   ·exact absurd (h5.trans h2.symm) (h.ne j i e h1)
 ·constructor
  ·intro e;omega
  ·rintro⟨h4,h5⟩;exact absurd h5 (h1 j h4)
def unF(x:Co)(r:Nat×Nat):Un:=⟨(r.1:Int),(r.2:Int),qbL x r.1 r.2⟩
def rnL(x:Co):List (Nat×Nat):=qdh (cmB x) x.col.length
def qi1(x:Co):List Un:=(rnL x).map (unF x)
theorem qqb(p:Nat->Bool)(n:Nat): ∀d f,(kS p n d f).Pairwise λa b=>a.2<b.1:=by
 intro d
 induction d with
 |zero=>intro f;exact List.Pairwise.nil
 |succ d ih=>
  intro f;unfold kS;split
  ·exact List.Pairwise.nil
  ·rw[List.pairwise_append];refine⟨?_,ih _,λa ha b hb=> ?_⟩
   ·split
    ·exact List.pairwise_singleton _ _
    ·exact List.Pairwise.nil
   ·split at ha
    ·rw[List.mem_singleton]at ha;subst ha
     have:=((qdS p n d (nxt p (n-f) f+1)).1 b hb).1
     show nxt p (n-f) f<b.1;omega
    ·cases ha
theorem qhp(x:Co):(qi1 x).length=(rnL x).length:=by unfold qi1;rw[List.length_map]
theorem qgj{x:Co}{k:Nat}(hk:k<(rnL x).length):(qi1 x).getD k default=unF x (rnL x)[k]:=by
 unfold qi1;rw[gdqA,List.getElem?_map,zD hk];rfl
theorem qrV{x:Co}{k:Nat}(hk:k<(rnL x).length):(rnL x)[k].1<(rnL x)[k].2∧(rnL x)[k].2<=x.col.length∧ ∀c,(rnL x)[k].1<=c->c<(rnL x)[k].2->cmB x c=false:=qmr (List.getElem_mem hk)
theorem qnd(x:Co):qbc x (qi1 x)=true:=by
 unfold qbc;rw[Bool.not_eq_true',qp];intro k hk;rw[qhp]at hk;rw[Bool.not_eq_false'];obtain⟨h1,h2,_⟩:=qrV hk;refine qna.2 ?_;rw[qgj hk];have hb:beH (qi1 x) k<((rnL x)[k].1:Int):=by
  unfold beH;split
  ·omega
  ·rename_i h0;rw[qgj (show k-1<(rnL x).length by omega)]
   have:=List.pairwise_iff_getElem.1 (qqb (cmB x) x.col.length (x.col.length+1) 0) (k-1) k (by show _<(rnL x).length;omega) hk om
   show ((rnL x)[k-1].2:Int)<_;have this:(rnL x)[k-1].2<(rnL x)[k].1:=this;omega
 refine⟨hb,?_,?_,?_,?_⟩
 ·show (0:Int)<=((rnL x)[k].1:Nat);omega
 ·show ((rnL x)[k].1:Int)<((rnL x)[k].2:Nat);omega
 ·show ((rnL x)[k].2:Int)<=_;omega
 ·show qbL x (rnL x)[k].1 (rnL x)[k].2=qbL x (((rnL x)[k].1:Nat):Int).toNat (((rnL x)[k].2:Nat):Int).toNat;rw[itn,itn]
theorem qpb{d:List Dc}{j:Nat}(ht: ∀o∈d,o.txt.length<=1000):(d.getD j default).txt.length<=1000:=by
 by_cases hj:j<d.length
 ·exact ht _ (zS hj)
 ·rw[gdqA,List.getElem?_eq_none om];exact nzl _
theorem quN{x:Co}{l:List Un}{d:List Dc}{s k:Nat}(ht: ∀o∈d,o.txt.length<=1000):(rwU x l d s k).length<=(toN l k-frN l k)+1000:=by
 unfold rwU;split
 ·rw[jr]
  have:=qd1 x s (frN l k) (toN l k-frN l k)
  omega
 ·rw[jr];unfold qnM;split
  ·have:=qd1 x (qX x (d.getD (me x l d k d.length).toNat default).sig).toNat (frN l k) (toN l k-frN l k)
   omega
  ·split
   ·rw[List.length_map];have h1:=UC (d.getD (me x l d k d.length).toNat default).txt;have h2:=qpb (j:=(me x l d k d.length).toNat) ht;omega
   ·exact nzl _
theorem qmw(x:Co)(s f t:Nat):(rwC x s f t).length<=t-f:=by
 unfold rwC;rw[jr];exact qd1 x s f _
theorem qmx{x:Co}{l:List Un}{d:List Dc}{s:Nat}(h:qbc x l=true)(ht: ∀o∈d,o.txt.length<=1000): ∀k,k<=l.length->(rwL x l d s k).length<=jq l k+1000*k∧k<=jq l k:=by
 intro k
 induction k with
 |zero=>intro _;exact⟨nzl _,nzl _⟩
 |succ k ih=>
  intro hk;obtain⟨i1,i2⟩:=ih om;have hp:=qg1 h (show k<l.length by omega);obtain⟨_,_,a3,a4,_⟩:=UI h (show k<l.length by omega);have u:=quN (x:=x) (l:=l) (s:=s) (k:=k) ht;have c:=qmw x s (jq l k) (frN l k);rw[qg2];refine⟨?_,om⟩;show (rwL x l d s k++(rwC x s (jq l k) (frN l k)++rwU x l d s k)).length<=_;rw[lap,lap];omega
theorem quK{x:Co}{l:List Un}{d:List Dc}{s:Nat}(h:qbc x l=true)(ht: ∀o∈d,o.txt.length<=1000):(rwA x l d s).length<=1001*x.col.length:=by
 obtain⟨h1,h2⟩:=qmx (d:=d) (s:=s) h ht l.length (nlr _);have hp:=qdL h (nlr l.length);have c:=qmw x s (jq l l.length) x.col.length;unfold rwA;rw[lap];omega
theorem qmv{x:Co}{l:List Un}{d:List Dc}{s:Nat}(hc:x.col.length<=10000)(ht: ∀o∈d,o.txt.length<=1000)(h:vaE x l=0):(rwA x l d s).length<=1000000000:=by
 have:=quK (d:=d) (s:=s) (qdl h).2.1 ht
 omega
theorem qfF{x:Co}{l:List Un}{d:List Dc}{s:Int}:(esR x l d s).length<=1024:=by
 unfold esR;split
 ·rename_i h;rw[jx];exact (qrh h).2.ln
 ·exact nzl _
end RC
end
section
open Go Go.Proofs AF
def qtG:List Nat:= []
@[go_sem]def vK:DT:= DT.one ⟨some 23,none,.app 4 3 39 40,[.t 14,.t 22]⟩ (DT.one ⟨none,none,.store 1,[.t 4,.t 23]⟩ DT.nil)
def qCy:C:=
 (vU [O1 1 (.box 0 26) 0,ON 2 (.nilo 1 3 39) [],vO 3 0] ((vU [O1 7 (.load (some 4)) 1,O1 8 (.call 47 true) 7,vP 9 .neq 8 0] (vV 9 (vX [ON 2 (.nilo 1 3 39) [],vO 3 1]))).seq (vU
 [⟨some 4,none,.alloc 2 31 [.nl],[]⟩] (((C.wk.seq (vY [O1 10 (.load (some 4)) 1,O1 11 (.call 62 true) 10])).seq (C.block 0 (C.range (.t 11) [12,13] (vU [MV 5 12] (vY [MV 6 13]))
 (C.block 1 (C.draw (DT.one ⟨some 15,none,.mv,[.t 5]⟩ (DT.one ⟨some 16,none,.mv,[.t 6]⟩ (DT.one ⟨some 17,none,.load (some 4),[.t 1]⟩ (DT.one ⟨some 18,none,.mv,[.t 5]⟩ (DT.one
 ⟨some 19,none,.mv,[.t 6]⟩ (DT.uni ⟨some 20,none,.call 63 true,[.t 17,.t 18,.t 19]⟩ (DT.one ⟨some 21,none,.build [i6 0,i6 0,.nl] [(0,1),(1,1),(2,1)],[.t 15,.t 16,.t 20]⟩
 ((DT.one ⟨some 14,none,.load none,[.t 4]⟩ (DT.one ⟨some 22,none,.bslc 3 3 1 39 [i6 0,i6 0,.nl] [(0,3)],[.t 21]⟩ vK)).two (DT.one ⟨some 22,none,.bslc 3 3 1 39 [i6 0,i6 0,.nl]
 [(0,3)],[.t 21]⟩ (DT.one ⟨some 14,none,.load none,[.t 4]⟩ vK))))))))))))))).seq (vX [LD 24 4,MV 2 24,vO 3 0])))))
theorem qx7:qG Tryz.prog 12 25 5 [RV.tmp 2,RV.tmp 3] qCy:=fi Tryz.f12 [1,2,4,22,23] qtG [4]
end
section
open Go Go.Proofs AF HY LN
namespace RC
def utE(x:Co):Int:=if coE x=0 then 0 else 1
def utR(x:Co):List Un:=if coE x=0 then qi1 x else []
theorem qqq{v n:Nat}{L:List Un}{ty:TypeId}{fz:Nat->Bool}{h:wh}{d:Nat}(hn:n=L.length):VLe (qe4 (some (zw v ty (qac L))) v 3 0 n (rei fz h (d+1))) (qZ L):=by
 subst hn;unfold zw;split
 ·rename_i e
  have:L= []:=by
   cases L with
   |nil=>rfl
   |cons a r=>exact absurd e (by simp[qac,unC])
  subst this;rw[slOf_emp,ipo rfl];exact qU
 ·rw[slOf_mem,ipo ⟨rfl,by rw[qcb];omega⟩];refine VLe.sl_eq rfl (λi hi=> ?_);simp only[Nat.zero_add];rw[qho hi];rfl
theorem qEc(x:Co)(h:wh)(hz:qbd x)(hp:cb SG h):ACalls Tryz.prog 12 [.agg (coC x)] h (.tup [qZ (utR x),.int .i64 (utE x)]) h:=by
 have c1:=λl'=>coP x (h++l') hz (hp.app l')
 unfold utE utR
 by_cases g:coE x=0
 case neg=>
  have k1:(coE x=0)=False:=eqf g;rw[ine g,ine g];obtain⟨e,he⟩:=wg (coE x)
  rw[<-he]at c1 k1;unfold coC at c1;refine acO qx7 ?_;simp (disch:=omega) only[qCy,coC,go_sem]
  repeat' first|(refine cA (c1 _) flk ?_;simp (disch:=omega) only[k1,go_sem])|(apply qb;exact rvk;simp only[go_sem])
  exact VLe.tup ⟨qU,qi,trivial⟩
 rw[ipo g,ipo g];simp only[g]at c1;have ho:=qag g;have hn:=hz.cl;have c2:=λh=>qE6 x h
 have lx: ∀n v ty,lowO n (.mem v ty (coC x)):=λn v ty=>qtT x n v ty
 unfold coC at c1 c2;refine acO qx7 ?_;simp (disch:=omega) only[qCy,coC,go_sem]
 repeat' first|(refine cA (c1 _) flk ?_;simp (disch:=omega) only[go_sem])
 refine⟨_,_,Wk.ownNil (j:=h.length+2) (i:=0) (k:=h.length+4) (v:=1) (ty:=31) (cs:= [.nl]) (ve:=0) (sz:=3) ?m1 rfl ?m2,?_⟩
 case m1=>simp only[go_sem]
 case m2=>simp only[go_sem]
 simp (disch:=omega) only[List.set_cons_zero,go_sem]
 repeat' first|(refine cA (c2 _) flk ?_;simp (disch:=omega) only[go_sem])
 have hrl:=qfU x;have hrg:=λi hi=>qmm (x:=x) (i:=i) hi
 have hul:(qi1 x).length=(qdh (cmB x) x.col.length).length:=qhp x;have hue:=λi (hi:i<(qdh (cmB x) x.col.length).length)=>qgj (x:=x) (k:=i) hi
 have hin:=λi (hi:i<(qdh (cmB x) x.col.length).length)=>qrV (x:=x) (k:=i) hi
 have hle:(qi1 x).length<=1000000000:=by
  have h1:=qmx (s:=0) (qnd x) (d:= []) (by simp) (qi1 x).length (nlr _);have h2:=qdL (qnd x) (nlr (qi1 x).length);omega
 unfold rnL at hue hin;obtain⟨rs,hrs⟩:=wg (qdh (cmB x) x.col.length)
 simp only[<-hrs]at hrl hrg hul hue hin;obtain⟨L,hL⟩:=wg (qi1 x)
 simp only[<-hL]at hul hue hle ⊢;obtain⟨X0,hX0⟩:=wg (AObj.mem 1 26 [.str x.sec,strs x.sig,qn x.tok,qv x.col])
 refine zJ (xs:=rnX x) (itR x ho hn) (qmn x)
  (S:=λi hh=> ∃w O1,qz [O1] 0=true∧(∀n,lowO n O1)∧hh=h++ [.mem 1 26 (coC x),.emp 1,.mem 1 31 [.osl (h.length+4) w 3 0 i],O1,zw w 39 (qac (L.take i))])
  (E:=λ_ _=>False) ?e1 (λ_ _ h=>h.elim) ?e2 ?e3 ?e4 ?e5 (λ_ _ h=>h.elim)
 case e1=>
  rintro i hh ⟨w,O1,_,l1,rfl⟩;refine LowI.app rfl (λo ho=> ?_);simp only[List.mem_cons,List.not_mem_nil,or_false]at ho;rcases ho with rfl|rfl|rfl|rfl|rfl
  ·left;simp[coC]
  ·left;simp
  ·right;constructor<;>(intro c hc;simp only[List.mem_cons,List.not_mem_nil,or_false]at hc;rcases hc with rfl;simp[qV])
  ·right;exact⟨l1 _,l1 _⟩
  ·right;exact⟨jE (qd6 _ _),jE (qd6 _ _)⟩
 case e2=>exact⟨0,.emp 0,rfl,λ_=>trivial,rfl⟩
 case e3=>
  have lt: ∀n,qV n (qn x.tok)=true:=λ_=>rfl
  have lc: ∀n,qV n (qv x.col)=true:=λ_=>rfl
  simp[qV,qV.lowVs,lt,lc,qgU]
  try omega
 case e4=>
  rintro i hh tl LI TS hi ⟨w,O1,p1,l1,rfl⟩ hlen K4 K5 hK4 hN hR' hX;rw[hrg i hi];rw[hrl]at hi;have e5:=hue i hi;obtain⟨f1,f2,_⟩:=hin i hi;have e6:rs.getD i (0,0)=rs[i]:=by rw[gdqA,zD hi];rfl
  rw[e6];have p1': ∀m,qz (O1::m) 0=true:=λ_=>p1
  have hTk:L.take (i+1)=L.take i++ [L.getD i default]:=by
   rw[List.take_add_one,zD om,gdqA,zD om];rfl
  rw[e5]at hTk;have hTl:(L.take i).length=i:=by rw[List.length_take];omega
  have eVl:=qcb (L.take i);rw[hTl]at eVl;have eVk:List.take (i*3) (qac (L.take i))=qac (L.take i):=ltl om;obtain⟨⟨f,t⟩,hr⟩: ∃r,r=rs[i]:=⟨_,rfl⟩
  rw[<-hr]at hTk f1 f2 ⊢;have eVn:qac (L.take (i+1))=qac (L.take i)++ [.int .i64 (f:Int),.int .i64 (t:Int),jh (qbL x f t)]:=by rw[hTk,qqP,qqQ];rfl
  have c48:=λh=>qE5 x f t h ho f2 hn
  unfold coC at c48;have zr: ∀X,(jh X).cells= [jh X]:=λ_=>rfl
  have zm:List.drop 3 (zM [AV.int .i64 0,.int .i64 0,.nl] 1)= []:=rfl;have hi9:((i:Int)+1)*24<=140737488355328:=by omega
  simp only[kN];simp (disch:=omega) only[List.append_assoc,coC,go_sem];refine hK4 _ _ (h++ [.mem 1 26 (coC x),.emp 1,.mem 1 31 [.osl (h.length+4) w 3 0 i],O1,zw w 39 (qac (L.take i))]) (by simp[coC]) (by simp) ?_;simp (disch:=omega) only[List.append_assoc,coC,go_sem];refine kl ?T ?H ?h1 ?h2
  case h1=>
   simp (disch:=omega) only[go_sem]
   repeat' first|(refine cU (λ_=>c48 _) flk ?_;simp (disch:=omega) only[p1',eVl,eVk,List.set_cons_zero,zr,zm,go_sem])|with_reducible apply aiA
   all_goals first
    |omega
    |rfl
    |(rw[bne_iff_ne];omega)
    |skip
  case h2=>
  simp (disch:=omega) only[go_sem];refine hN _ _ (h++ [.mem 1 26 (coC x),.emp 1,.mem 1 31 [.osl (h.length+4) (w+1) 3 0 (i+1)],.mem (qo (some O1)+1) 39 [.int .i64 (f:Int),.int .i64 (t:Int),jh (qbL x f t)],zw (w+1) 39 (qac (L.take (i+1)))]) (by rw[eVn];simp[coC]) (by simp)
   ⟨w+1,_,rfl,?lw,rfl⟩
  case lw=>
  intro n c hc;simp only[List.mem_cons,List.not_mem_nil,or_false]at hc;rcases hc with rfl|rfl|rfl<;>rfl
 case e5=>
  rintro hh ⟨w,O1,p1,l1,rfl⟩;rw[hrl,<-hul,List.take_length];simp (disch:=omega) only[go_sem]
  repeat' first|(apply qb;exact rvk;simp only[go_sem])|with_reducible apply aiA|exact clz|fail
  exact VLe.tup ⟨qqq rfl,qi,trivial⟩
end RC
end
section
namespace Go.Proofs
open Go.Shelf
end Go.Proofs
end
section
open Go Go.Proofs AF HY LN
namespace RC
end RC
end
section
open Go Go.Proofs AF
def kn:List Nat:= []
def qCf:C:=
 (vU [O1 2 (.box 0 26) 0,vO 4 0] ((vU [O1 5 (.load (some 4)) 2,O1 6 (.call 10 true) 5,vP 7 .neq 6 0] (vV 7 (vX [vO 4 1]))).seq ((vU [O1 8 (.load (some 4)) 2,MV 9 1,O2 10 (.call
 160 true) 8 9,vP 11 .neq 10 0] (vV 11 (vX [vO 4 20]))).seq (vX [vO 4 0]))))
theorem qts:qG Tryz.prog 84 12 1 [RV.tmp 4] qCf:=fi Tryz.f84 [2] kn []
def qCG:C:=
 (vU [O1 3 (.box 0 26) 0,vO 6 0] ((vU [MV 9 2,O1 10 .len 9,vP 11 .gtr 10 256] (vV 11 (vX [vO 6 4]))).seq ((vU [vO 7 0] (C.block 0 ((v6 12 7 2 0).seq ((C.block 1 (vU [O1 18 (.load
 (some 4)) 3,MV 19 1,MV 20 2,MV 21 7,O2 22 (.idxA 4) 20 21,O1 23 (.load (some 4)) 22,ON 24 (.call 98 true) [.t 18,.t 19,.t 23],MV 8 24] (vU [MV 25 8,vP 26 .neq 25 0] (vV 26 (vX
 [MV 27 8,MV 6 27]))))).seq (vZ 16 7))).loop)).seq (vX [vO 6 0]))))
theorem qzM:qG Tryz.prog 85 28 1 [RV.tmp 6] qCG:=fi Tryz.f85 [3] kn []
def qEN:C:=
 (vU [vO 4 0] ((vU [vO 5 0] (C.block 0 ((v6 6 5 0 0).seq ((C.block 1 (vU [MV 12 0,MV 13 5,O2 14 (.idxA 3) 12 13,vN 15 0 14,LD 16 15,MV 17 1,BI 18 .leq 16 17,MV 19 18,MG 20 19
 true 1,MG 21 19 true 0,MG 22 19 true 5,P2 23 19 true (.idxA 3) 21 22,P1 24 19 true (.fldA 1) 23,P1 25 19 true (.load none) 24,P2 26 19 true (.bin .lss) 20 25,PF 27 19 26] (vV
 27 (vX [MV 28 5,MV 4 28])))).seq (vZ 10 5))).loop)).seq (vX [MC 4 (i6 (-1))])))
theorem qDn:qG Tryz.prog 86 29 0 [RV.tmp 4] qEN:=fi Tryz.f86 [] kn []
def qEO:C:=
 (vU [O1 4 (.box 0 119) 0,⟨some 8,none,.alloc 1 133 [.str [],i6 0,i6 0,i6 0,.bool false,.bool false,.str []],[]⟩] (vX [vN 9 0 4,LD 10 9,MV 11 1,MV 12 2,MV 13 3,vN 14 4 4,LD 15
 14,vP 16 .and 15 16,vP 17 .neq 16 0,vN 18 4 4,LD 19 18,vP 20 .and 19 4,vP 21 .neq 20 0,vN 22 5 4,LD 23 22,⟨some 24,none,.build [.str [],i6 0,i6 0,i6 0,.bool false,.bool
 false,.str []] [(0,1),(1,1),(2,1),(3,1),(4,1),(5,1),(6,1)],[.t 10,.t 11,.t 12,.t 13,.t 17,.t 21,.t 23]⟩,ST 7 8 24]))
theorem qDo:qG Tryz.prog 87 25 2 [RV.cell 8 (some 7)] qEO:=fi Tryz.f87 [4,8] kn []
def qES:C:=
 (vU [ON 4 (.nilo 0 1 9) []] (vU [⟨some 7,none,.bslc 1 1 0 9 [.str []] [],[]⟩,MV 5 7] ((vU [vO 6 0] (C.block 0 ((v6 8 6 0 0).seq ((C.block 1 (vU [MV 14 0,MV 15 6,O2 16 (.idxA 7)
 14 15,vN 17 2 16,LD 18 17,MV 19 1,BI 20 .eql 18 19] (vV 20 (vY [MV 21 5,MV 22 0,MV 23 6,O2 24 (.idxA 7) 22 23,vN 25 0 24,LD 26 25,⟨some 27,none,.bslc 2 1 1 9 [.str []]
 [(0,1)],[.t 26]⟩,O2 28 (.app 3 1 9 16) 21 27,MV 5 28])))).seq (vZ 12 6))).loop)).seq (vX [MV 29 5,MV 4 29]))))
theorem qDs:qG Tryz.prog 94 30 4 [RV.tmp 4] qES:=fi Tryz.f94 [4,7,27,28] kn []
def qET:C:=
 (vU [O1 4 (.box 0 26) 0,vO 8 0] ((vU [vO 9 0] (C.block 0 ((vU [MV 10 9,vN 11 3 4,LD 12 11,O1 13 .len 12,BI 14 .lss 10 13] (vW 14 0)).seq ((C.block 1 (vU [vN 17 3 4,LD 18 17,MV
 19 9,O2 20 (.idxA 1) 18 19,LD 21 20,MV 22 2,O2 23 (.idxA 1) 21 22,LD 24 23,MV 25 3,BI 26 .eql 24 25] (vV 26 (vX [MV 27 1,MV 28 9,O2 29 (.call 86 true) 27 28,MV 8 29])))).seq
 (vZ 15 9))).loop)).seq (vX [MC 8 (i6 (-1))])))
theorem qDt:qG Tryz.prog 96 30 1 [RV.tmp 8] qET:=fi Tryz.f96 [4] kn []
def qEU:C:=
 (vU [O1 2 (.box 0 26) 0,vO 4 0] ((vU [vO 5 0] (C.block 0 ((vU [MV 6 5,vN 7 1 2,LD 8 7,O1 9 .len 8,BI 10 .lss 6 9] (vW 10 0)).seq ((C.block 1 (vU [vN 13 1 2,LD 14 13,MV 15 5,O2
 16 (.idxA 1) 14 15,LD 17 16,MV 18 1,BI 19 .eql 17 18] (vV 19 (vX [MV 20 5,MV 4 20])))).seq (vZ 11 5))).loop)).seq (vX [MC 4 (i6 (-1))])))
theorem qDu:qG Tryz.prog 97 21 1 [RV.tmp 4] qEU:=fi Tryz.f97 [2] kn []
def qj3:C:=
 (vU [O1 3 (.box 0 26) 0,O1 5 (.box 1 65) 2,vO 6 0] ((vU [vN 10 0 5,LD 11 10,vP 12 .neq 11 1,MV 13 12,P1 14 13 true (.fldA 0) 5,P1 15 13 true (.load none) 14,PC 16 13 true (.bin
 .neq) 15 (i6 2),PF 17 13 16,MV 18 17,P1 19 18 true (.fldA 0) 5,P1 20 18 true (.load none) 19,PC 21 18 true (.bin .neq) 20 (i6 3),PF 22 18 21] (vV 22 (vX [vO 6 8]))).seq ((vU
 [vN 23 3 5,LD 24 23,BC 25 .neq 24 (.str []),MV 26 25,P1 27 26 true (.fldA 0) 5,P1 28 26 true (.load none) 27,PC 29 26 true (.bin .neq) 28 (i6 2),PF 30 26 29] (vV 30 (vX [vO 6
 1]))).seq (vU [O1 31 (.load (some 4)) 3,vN 32 1 5,LD 33 32,O2 34 (.call 97 true) 31 33,MV 7 34] ((vU [MV 35 7,vP 36 .lss 35 0,MV 37 36,v7 38 37 2 5,v8 39 37 38,vT 40 37 (.bin
 .lss) 39 (i6 0),PT 41 37 40,MV 42 41,v7 43 42 2 5,v8 44 42 43,v7 45 42 2 3,v8 46 42 45,vS 47 42 7,vR 48 42 (.idxA 1) 46 47,v8 49 42 48,vQ 50 42 .len 49,vR 51 42 (.bin .geq) 44
 50,PT 52 42 51] (vV 52 (vX [vO 6 6]))).seq ((vU [O1 53 (.load (some 4)) 3,MV 54 1,MV 55 7,vN 56 2 5,LD 57 56,ON 58 (.call 96 true) [.t 53,.t 54,.t 55,.t 57],vP 59 .lss 58 0]
 (vV 59 (vX [vO 6 20]))).seq ((vU [vN 60 0 5,LD 61 60,vP 62 .eql 61 2] (vV 62 (vU [vN 64 3 5,LD 65 64,O1 66 (.call 166 true) 65,MV 63 66,O1 67 (.ext 0) 63,O1 68 (.ext 1) 63,MV 8
 67,MV 9 68] ((vU [MV 69 9,vP 70 .neq 69 0] (vV 70 (vX [MV 71 9,MV 6 71]))).seq (vU [MV 72 8,O1 73 .len 72,vP 74 .eql 73 0] (vV 74 (vX [vO 6 5]))))))).seq (vX [vO 6 0]))))))))
theorem qcI:qG Tryz.prog 98 75 2 [RV.tmp 6] qj3:=fi Tryz.f98 [3,5] kn []
def qvB:C:=
 (vU [O1 4 (.box 0 26) 0,ON 8 (.nilo 1 7 133) [],vO 9 0] ((vU [O1 16 (.load (some 4)) 4,MV 17 1,O2 18 (.call 84 true) 16 17,MV 10 18] (vU [MV 19 10,vP 20 .neq 19 0] (vV 20 (vX
 [MV 21 10,ON 8 (.nilo 1 7 133) [],MV 9 21])))).seq ((vU [MV 22 3,vP 23 .lss 22 0,MV 24 23,vS 25 24 3,v7 26 24 1 4,v8 27 24 26,vQ 28 24 .len 27,vR 29 24 (.bin .geq) 25 28,PT 30
 24 29] (vV 30 (vX [ON 8 (.nilo 1 7 133) [],vO 9 2]))).seq ((vU [O1 31 (.load (some 4)) 4,MV 32 1,MV 33 2,ON 34 (.call 85 true) [.t 31,.t 32,.t 33],MV 11 34] (vU [MV 35 11,vP 36
 .neq 35 0] (vV 36 (vX [MV 37 11,ON 8 (.nilo 1 7 133) [],MV 9 37])))).seq (vU [⟨some 38,none,.bslc 2 7 0 133 [.str [],i6 0,i6 0,i6 0,.bool false,.bool false,.str []] [],[]⟩,MV
 12 38] ((vU [vO 13 0] (C.block 0 ((vU [MV 39 13,vN 40 3 4,LD 41 40,O1 42 .len 41,BI 43 .lss 39 42] (vW 43 0)).seq ((C.block 1 (vU [MV 46 1,MV 47 13,O2 48 (.call 86 true) 46
 47,MV 14 48] (vU [MV 49 14,vP 50 .lss 49 0] (C.cond (.t 50) (vY [MV 51 12,vN 52 2 4,LD 53 52,MV 54 3,O2 55 (.idxA 1) 53 54,LD 56 55,vN 57 3 4,LD 58 57,MV 59 13,O2 60 (.idxA 1)
 58 59,LD 61 60,MV 62 3,O2 63 (.idxA 1) 61 62,LD 64 63,O2 65 (.idxA 6) 56 64,O1 66 (.load (some 6)) 65,MV 67 13,ON 68 (.call 87 true) [.t 66,.t 67,.c (i6 (-1)),.c (i6
 (-1))],⟨some 69,none,.bslc 3 7 1 133 [.str [],i6 0,i6 0,i6 0,.bool false,.bool false,.str []] [(0,7)],[.t 68]⟩,O2 70 (.app 4 7 133 64) 51 69,MV 12 70]) (vU [MV 71 1,MV 72 14,O2
 73 (.idxA 3) 71 72,vN 74 0 73,LD 75 74,MV 76 13,BI 77 .eql 75 76] (vV 77 (vY [MV 78 12,O1 79 (.load (some 4)) 4,MV 80 1,MV 81 2,MV 82 3,MV 83 14,ON 84 (.call 88 true) [.t 79,.t
 80,.t 81,.t 82,.t 83],O2 85 (.app 5 7 133 64) 78 84,MV 12 85]))))))).seq (vZ 44 13))).loop)).seq ((vU [MV 86 12,O1 87 .len 86,vP 88 .gtr 87 1024] (vV 88 (vX [ON 8 (.nilo 1 7
 133) [],vO 9 4]))).seq ((vU [vO 15 0] (C.block 2 ((v6 89 15 12 2).seq ((C.block 3 (vY [MV 95 12,MV 96 15,MV 97 12,MV 98 15,O2 99 (.idxA 7) 97 98,vN 100 4 99,LD 101 100,MV 102
 101,MG 103 102 true 15,PC 104 102 true (.bin .gtr) 103 (i6 0),PF 105 102 104,MV 106 105,MG 107 106 true 12,MG 108 106 true 15,P2 109 106 true (.idxA 7) 107 108,P1 110 106 true
 (.fldA 0) 109,P1 111 106 true (.load none) 110,P1 112 106 true (.call 89 true) 111,P1 113 106 true (.un UnOp.not) 112,MG 114 106 true 113,vS 115 114 12,vS 116 114 15,vT 117 114
 (.bin .sub) 116 (i6 1),vR 118 114 (.idxA 7) 115 117,v7 119 114 0 118,v8 120 114 119,vQ 121 114 (.call 89 true) 120,vQ 122 114 (.un UnOp.not) 121,QT 123 106 true 114 122,PF 124
 106 123,MV 125 124,MG 126 125 true 12,MG 127 125 true 15,P2 128 125 true (.idxA 7) 126 127,P1 129 125 true (.fldA 0) 128,P1 130 125 true (.load none) 129,PC 131 125 true (.bin
 .eql) 130 (.str [39]),MG 132 125 true 131,MG 133 132 true 12,MG 134 132 true 15,PC 135 132 true (.bin .sub) 134 (i6 1),P2 136 132 true (.idxA 7) 133 135,P1 137 132 true (.fldA
 0) 136,P1 138 132 true (.load none) 137,P1 139 132 true (.call 89 true) 138,QF 140 125 true 132 139,P1 141 125 true (.un UnOp.not) 140,PF 142 125 141,O2 143 (.idxA 7) 95 96,vN
 144 4 143,ST 1 144 142])).seq (vZ 93 15))).loop)).seq (vX [MV 145 12,MV 8 145,vO 9 0])))))))))
theorem qk3:qG Tryz.prog 26 146 6 [RV.tmp 8,RV.tmp 9] qvB:=fi Tryz.f26 [4,8,38,69,70,85] kn []
def qCA:C:=
 (vU [O1 4 (.box 0 26) 0,ON 8 (.nilo 1 1 3) [],vO 9 0] (vU [O1 17 (.load (some 4)) 4,MV 18 1,MV 19 2,MV 20 3,ON 21 (.call 26 true) [.t 17,.t 18,.t 19,.t 20],MV 16 21,O1 22 (.ext
 0) 16,O1 23 (.ext 1) 16,MV 10 22,MV 11 23] ((vU [MV 24 11,vP 25 .neq 24 0] (vV 25 (vX [MV 26 11,ON 8 (.nilo 1 1 3) [],MV 9 26]))).seq (vU [⟨some 27,none,.bslc 2 1 0 3 [i6 0]
 [],[]⟩,MV 12 27] ((vU [vO 13 0] (C.block 0 ((v6 28 13 1 0).seq ((C.block 1 (vU [MC 14 (i6 (-1))] ((vU [vO 15 0] (C.block 2 ((vU [MV 34 15,MV 35 1,MV 36 13,O2 37 (.idxA 3) 35
 36,vN 38 2 37,LD 39 38,O1 40 .len 39,BI 41 .lss 34 40] (vW 41 2)).seq ((C.block 3 (vU [MV 44 1,MV 45 13,O2 46 (.idxA 3) 44 45,vN 47 2 46,LD 48 47,MV 49 15,O2 50 (.idxA 2) 48
 49,vN 51 0 50,LD 52 51,MV 53 10,MV 54 13,O2 55 (.call 94 true) 53 54,O2 56 (.call 93 true) 52 55] (vV 56 (vY [MV 57 15,MV 14 57])))).seq (vZ 42 15))).loop)).seq (vY [MV 58
 12,MV 59 14,⟨some 60,none,.bslc 3 1 1 3 [i6 0] [(0,1)],[.t 59]⟩,O2 61 (.app 4 1 3 8) 58 60,MV 12 61])))).seq (vZ 32 13))).loop)).seq (vX [MV 62 12,MV 8 62,vO 9 0]))))))
theorem qy5:qG Tryz.prog 28 63 5 [RV.tmp 8,RV.tmp 9] qCA:=fi Tryz.f28 [4,8,27,60,61] kn []
def qEC:C:=
 (vU [MC 4 (.bool false)] ((vU [MV 6 0,O1 7 .len 6,MV 8 1,O1 9 .len 8,BI 10 .neq 7 9] (vV 10 (vX [MC 4 (.bool false)]))).seq ((vU [vO 5 0] (C.block 0 ((v6 11 5 0 0).seq ((C.block
 1 (vU [MV 17 0,MV 18 5,O2 19 (.idxA 7) 17 18,O1 20 (.load (some 7)) 19,MV 21 1,MV 22 5,O2 23 (.idxA 7) 21 22,O1 24 (.load (some 7)) 23,⟨some 25,none,.aeq
 [.str,.int,.int,.int,.bool,.bool,.str] true,[.t 20,.t 24]⟩] (vV 25 (vX [MC 4 (.bool false)])))).seq (vZ 15 5))).loop)).seq (vX [MC 4 (.bool true)]))))
theorem qDc:qG Tryz.prog 29 26 0 [RV.tmp 4] qEC:=fi Tryz.f29 [] kn []
def qED:C:=
 (vU [MC 2 (.bool false)] ((vU [vO 3 0] (C.block 0 ((v6 4 3 0 0).seq ((C.block 1 (vU [MV 10 0,MV 11 3,O2 12 (.idxA 4) 10 11,vN 13 1 12,LD 14 13,O1 15 .slen 14,vP 16 .gtr 15 30,MV
 17 16,vS 18 17 0,vS 19 17 3,vR 20 17 (.idxA 4) 18 19,v7 21 17 3 20,v8 22 17 21,vQ 23 17 .slen 22,vT 24 17 (.bin .gtr) 23 (i6 30),PT 25 17 24] (vV 25 (vX [MC 2 (.bool
 true)])))).seq (vZ 8 3))).loop)).seq (vX [MV 26 0,O1 27 .len 26,vP 28 .gtr 27 6,MV 2 28])))
theorem qDd:qG Tryz.prog 31 29 0 [RV.tmp 2] qED:=fi Tryz.f31 [] kn []
end
section
open Go Go.Proofs AF HY LN
namespace RC
def gDc(d:List Dc)(i:Nat):Bool:=decide (30<(d.getD i default).sig.length)||decide (30<(d.getD i default).txt.length)
def qty(d:List Dc):Bool:=jC (gDc d) d.length||decide (6<d.length)
theorem qDA(b:List Dc)(h:wh)(hn:b.length<=9223372036854775807):ACalls Tryz.prog 31 [kz b] h (.bool (qty b)) h:=by
 obtain⟨R,hR⟩:=wg (qty b)
 rw[<-hR];unfold qty at hR;have zb:kz b= .sl b.length λi=>dcC (b.getD i default):=rfl
 refine acO qDd ?_;simp (disch:=omega) only[qED,go_sem];refine qk (T:=λi:Nat=>qP 29 [(0,kz b),(3,.int .i64 i)]) (H:=λ_=>h) (inv:=λi=>i<=b.length∧ ∀j,j<i->gDc b j=false) (m:=λi=>b.length-i) 0 ⟨nzl _,λj hj=>absurd hj (nnz j)⟩ (Wk.temps ?_) ?_
 ·(simp only[go_sem,qf,qc,qa,qe];try exact we)
 rintro i ⟨i1,i2⟩ K hK
 by_cases hi:i<b.length
 ·have k1:((i:Int)<b.length)=True:=wj;have k0:(0<=(i:Int))=True:=wj;have hit:gDc b i=true->R=true:=λhc=>by rw[hR,qN.2 ⟨i,hi,hc⟩];rfl
  have i3:=λhc=>jD (p:=gDc b) i2 hc
  have hG:gDc b i=(decide (30<(b.getD i default).sig.length)||decide (30<(b.getD i default).txt.length)):=rfl;obtain⟨w,hw⟩:=wg (b.getD i default)
  have ew:=hw.symm;rw[ew]at hG
  by_cases g1:30<w.sig.length
  ·have q1:((30:Int)<w.sig.length)=True:=wj;rw[hit (by rw[hG,dqt g1];rfl)];simp (disch:=omega) only[zb,dcC,k0,k1,ew,q1,go_sem]
   repeat' first|exact wc|fail
  have q1:((30:Int)<w.sig.length)=False:=wl
  by_cases g2:30<w.txt.length
  ·have q2:((30:Int)<w.txt.length)=True:=wj;rw[hit (by rw[hG,dqt g2,Bool.or_true])];simp (disch:=omega) only[zb,dcC,k0,k1,ew,q1,q2,go_sem]
   repeat' first|exact wc|with_reducible apply aiA|exact clz|fail
  have q2:((30:Int)<w.txt.length)=False:=wl;simp (disch:=omega) only[zb,dcC,k0,k1,ew,q1,q2,go_sem]
  repeat' first|with_reducible apply aiA|exact clz|fail
  refine hK _ _ (i+1) ⟨hi,i3 (by rw[hG,dqf g1,dqf g2];rfl)⟩ om (Wk.temps ?_)
  (simp only[zb,dcC,go_sem,qf,qc,qa,qe];try exact we)
 obtain rfl:i=b.length:=by omega
 have k1:((b.length:Int)<b.length)=False:=wl;rw[qp.2 (λj hj=>i2 j hj),Bool.false_or]at hR
 by_cases g:6<b.length
 ·have q:((6:Int)<b.length)=True:=wj;rw[dqt g]at hR;rw[hR];simp (disch:=omega) only[zb,k1,q,go_sem]
  repeat' first|exact wc|fail
 ·have q:((6:Int)<b.length)=False:=wl;rw[dqf g]at hR;rw[hR];simp (disch:=omega) only[zb,k1,q,go_sem]
  repeat' first|exact wc|fail
theorem qtz{d:List Dc}(h:qty d=false):d.length<=6∧(∀j,(d.getD j default).sig.length<=30)∧ ∀o∈d,o.txt.length<=30:=by
 unfold qty at h;rw[Bool.or_eq_false_iff,decide_eq_false_iff_not]at h;have key: ∀i,i<d.length-> ¬30<(d.getD i default).sig.length∧ ¬30<(d.getD i default).txt.length:=λi hi=>by
  have:=qp.1 h.1 i hi
  unfold gDc at this;rw[Bool.or_eq_false_iff,decide_eq_false_iff_not,decide_eq_false_iff_not]at this;exact this
 refine⟨om,jH d (λd=>d.sig.length<=30) (by decide) λi hi=>by have:=(key i hi).1;omega,λo ho=> ?_⟩;obtain⟨i,hi,rfl⟩:=List.getElem_of_mem ho
 have:=(key i hi).2
 rw[gdqA,zD hi]at this;simp only[Option.getD_some]at this;omega
structure Cq where
 x:Co
 l:List Un
 d:List Dc
 lead:Int
def cqC(a:Cq):wi:= [.str a.x.sec,strs a.x.sig,qn a.x.tok,qv a.x.col,qZ a.l,kz a.d,.int .i64 a.lead]
structure CqB (a:Cq):Prop where
 x:CoB a.x
 l:UnB a.l
 d:a.d.length<=9223372036854775807
def qzY(a:Cq):Bool:=qtw a.x||(qtx a.l||qty a.d)
structure CqS (a:Cq):Prop where
 x:qbd a.x
 l:qcS a.l
 cl:a.x.col.length<=24
 sl:a.x.sig.length<=36
 ll:a.l.length<=12
 d:a.d.length<=6
 g: ∀j,(a.d.getD j default).sig.length<=30
 t: ∀o∈a.d,o.txt.length<=30
theorem qzZ{a:Cq}(h:qzY a=false):CqS a:=by
 unfold qzY at h;rw[Bool.or_eq_false_iff,Bool.or_eq_false_iff]at h;obtain⟨h1,h2,h3⟩:=h;obtain⟨o1,o2,o3⟩:=qrG h1;obtain⟨u1,u2⟩:=qrH h2;obtain⟨d1,d2,d3⟩:=qtz h3;exact⟨o1,u1,o2,o3,u2,d1,d2,d3⟩
theorem CqS.lim{a:Cq}(h:CqS a)(s:Nat)(g:vaE a.x a.l=0):(rwA a.x a.l a.d s).length<=1000000000:=
 qmv (by have:=h.cl;omega) (λo ho=>by have:=h.t o ho;omega) g
theorem qCS(h:wh):ACalls Tryz.prog 71 [.nl] h .nl h:=by
 refine acO qtr ?_;simp (disch:=omega) only[qCe,go_sem]
 repeat' first|exact wa|fail
theorem qGg(a:Int)(h:wh):ACalls Tryz.prog 68 [qx [a],.int .i64 0] h (qx []) h:=by
 have s1:=λh=>qhf h [a]
 have c1:=λh=>qE4 0 h om
 have z1: ∀g,valL g .len [qx [a]]= .int .i64 1:=λ_=>rfl
 have z2: ∀g,okL g .len [qx [a]]=True:=λ_=>eqt trivial
 have e5:IntKind.u64.wrap 1=1:=by decide
 have e6:IntKind.u64.wrap 0=0:=by decide
 rw[show ((0:Nat):Int)=0 from rfl]at c1;refine acO qzJ ?_;simp (disch:=omega) only[qCD,z1,z2,e5,e6,go_sem]
 repeat' first|(refine cA (c1 _) flk ?_;simp (disch:=omega) only[s1,go_sem])|(with_reducible first|intro _|apply aiA)|exact clz|fail
 ·rfl
 refine qk (T:=λ_:Unit=>qP 48 [(7,.osl (h.length+1) 1 1 0 0),(8,.int .i64 0)]) (H:=λ_=>h++ [.emp 1,.mem 1 3 []])
  (inv:=λ_=>True) (m:=λ_=>0) () trivial (Wk.temps ?_) ?_
 ·(simp only[go_sem,qf,qc,qa,qe];try exact we)
 rintro⟨⟩-K hK;have q1:((0:Int)<0)=False:=wl;simp (disch:=omega) only[go_sem]
 repeat' first|(apply qb;exact rvk;simp only[go_sem])|(with_reducible first|intro _|apply aiA)|exact clz|fail
 exact VLe.sl_eq rfl (λi hi=>absurd hi (nnz _))
theorem qAW{hh:wh}{j v:Nat}(a:Int)(cs:wi)(hj:qu j hh=some (.mem v 3 (.int .i64 a::cs))):
  ACalls Tryz.prog 68 [.osl j v 1 0 1,.int .i64 0] hh (qx []) (qt j hh (.emp (v+1))):=by
 have hs:qz hh j=true:=by unfold qz;rw[hj]
 have e1:qbU [j] hh=qt j hh (.emp (v+1)):=by show qt j hh (.emp (qo (qu j hh)+1))=_;rw[hj];rfl
 refine ACalls.frzd [j] (by show (qz hh j&&true)=true;rw[hs];rfl) ?_;rw[e1];refine (qGg a _).le ⟨?_,qi,trivial⟩ (qi);have hc:=qR hj;have e: [j].contains j=true:=by simp
 simp only[go_sem,e,if_true,hc];rw[hj,slOf_mem,ipo ⟨rfl,by simp⟩];refine VLe.sl_eq rfl (λi hi=> ?_);obtain rfl:i=0:=by omega
 rfl
theorem qC5(x:Co)(d:List Dc)(s:Int)(h:wh)(hz:qbd x)(hp:cb SG h)(hg:jf h frmN frmC)(hd:d.length<=1000000)(ht: ∀o∈d,o.txt.length<=1000)(hN0:vaE x []=0->(rwA x [] d s.toNat).length<=1000000000):
  ACalls Tryz.prog 17 [.agg (coC x),.nl,kz d,.int .i64 s] h (.tup [kq (esR x [] d s),.int .i64 (esE x [] d s)]) h:=by
 have hu:qcS []:=⟨by simp,λi=>by simp;exact nzl _,λi j=>by simp;exact nzl _,λi j=>by simp;exact nzl _⟩
 have c1:=λl'=>(qsT x [] (h++l') hz hu (hp.app l')).le (args:= [.agg (coC x),.nl]) ⟨qi,qU,trivial⟩ (qi)
 have zu: ∀g l,valL g .len [qZ l]= .int .i64 l.length:=λ_ _=>rfl
 have zv: ∀g l,okL g .len [qZ l]=True:=λ_ _=>eqt trivial
 have zu1: ∀g l,valL g .len [strs l]= .int .i64 l.length:=λ_ _=>rfl
 have zv1: ∀g l,okL g .len [strs l]=True:=λ_ _=>eqt trivial
 have hE:esE x [] d s=(if vaE x []≠0 then vaE x [] else if s<0∨(x.sig.length:Int)<=s then 2 else if UY x [] d≠0 then UY x [] d else if 1024<(rwA x [] d s.toNat).length then 4 else 0):=rfl;unfold esR
 by_cases g:vaE x []=0
 case neg=>
  have k1:(vaE x []=0)=False:=eqf g;rw[ipo g]at hE;rw[hE,ine g];unfold coC at c1;refine acO qan ?_;simp (disch:=omega) only[qfj,coC,go_sem]
  repeat' first|(refine cA (c1 _) flk ?_;simp (disch:=omega) only[k1,go_sem])|(apply qb;exact rvk;simp only[go_sem])
  exact VLe.tup ⟨qU,qi,trivial⟩
 rw[ine (by simpa using g)]at hE;have hN:=hN0 g;simp only[g]at c1;obtain⟨hca,hus,hcv⟩:=qdl g;have ho:=qag hca
 by_cases g2:s<0
 ·have k2:(s<0)=True:=eqt g2;rw[ipo (.inl g2)]at hE;rw[hE,ine (by decide)];unfold coC at c1;refine acO qan ?_;simp (disch:=omega) only[qfj,coC,go_sem]
  repeat' first|(refine cA (c1 _) flk ?_;simp (disch:=omega) only[k2,go_sem])|(apply qb;exact rvk;simp only[go_sem])
  exact VLe.tup ⟨qU,qi,trivial⟩
 have k2:(s<0)=False:=eqf g2
 by_cases g3:(x.sig.length:Int)<=s
 ·have k3:((x.sig.length:Int)<=s)=True:=eqt g3;rw[ipo (.inr g3)]at hE;rw[hE,ine (by decide)];unfold coC at c1;refine acO qan ?_;simp (disch:=omega) only[qfj,coC,go_sem]
  repeat' first|(refine cA (c1 _) flk ?_;simp (disch:=omega) only[k2,k3,zu1,zv1,go_sem])|(apply qb;exact rvk;simp only[go_sem])
  exact VLe.tup ⟨qU,qi,trivial⟩
 have k3:((x.sig.length:Int)<=s)=False:=eqf g3;rw[ine (λe=>e.elim g2 g3)]at hE;have c2:=λl'=>(qDT x [] d (h++l') hz hu (hp.app l') hg.app hca hd ht).le (args:= [.agg (coC x),.nl,kz d]) ⟨qi,qU,qi,trivial⟩ (qi)
 unfold qAE at c2
 by_cases g4:UY x [] d=0
 case neg=>
  have k4:(UY x [] d=0)=False:=eqf g4;simp only[ine g4]at c2;rw[ipo g4]at hE;rw[hE,ine g4];unfold coC at c1 c2;refine acO qan ?_;simp (disch:=omega) only[qfj,coC,go_sem]
  repeat' first|((first|refine cA (c1 _) ?_ ?_|refine cA (c2 _) ?_ ?_);exact flk;simp (disch:=omega) only[k2,k3,k4,zu1,zv1,go_sem])|(apply qb;exact rvk;simp only[go_sem])|with_reducible apply aiA|exact clz|fail
  exact VLe.tup ⟨qU,qi,trivial⟩
 rw[ine (by simpa using g4)]at hE;simp only[g4,if_true]at c2;rw[hE];unfold coC at c1 c2;refine acO qan ?_;simp (disch:=omega) only[qfj,coC,go_sem]
 repeat' first|((first|refine cA (c1 _) ?_ ?_|refine cA (c2 _) ?_ ?_);exact flk;simp (disch:=omega) only[k2,k3,zu1,zv1,go_sem])|with_reducible apply aiA|exact clz|fail
 have hd0:d= []:=by
  cases d with
  |nil=>rfl
  |cons o r=>
   exfalso
   have:=g4
   unfold UY at this;split at this
   ·cases this
   ·have h0:=jW.1 this 0 (by simp);have h1:=(qap h0).2.2.2.2.1;have h2:kQ x [] ((o::r).getD 0 default)= -1:=rfl;omega
 subst hd0;have zi: ∀g l,valL g .len [qx l]= .int .i64 l.length:=λ_ _=>rfl
 have zj: ∀g l,okL g .len [qx l]=True:=λ_ _=>eqt trivial
 have ePL:(plG x [] [] ([]:List Dc).length).length=0:=rfl;refine qE (qAW (j:=h.length+2) (-1) (List.drop 1 (zM [.int .i64 0] 1)) ?j1) (by exact flk) ?_
 case j1=>simp only[go_sem]
 simp (disch:=omega) only[zi,zj,go_sem];refine qk (T:=λ_:Unit=>qP 154 [(1,.nl),(3,.int .i64 s),(4,.op h.length 1 0),(13,qx []),(56,.int .i64 0),(57,.int .i64 0)])
  (H:=λ_=>h++ [.mem 1 26 [.str x.sec,strs x.sig,qn x.tok,qv x.col],.emp 1,.emp 2,.emp 0,.emp 0,.emp 0,.emp 0,.emp 0,.emp 0,.emp 0,.emp 0,.emp 0,.emp 0,.emp 0,.emp 0,.emp 0])
  (inv:=λ_=>True) (m:=λ_=>0) () trivial (Wk.temps ?_) ?_
 ·(simp only[go_sem,qf,qc,qa,qe];try exact we)
 rintro⟨⟩-K hK;have q1:((0:Int)<0)=False:=wl;simp (disch:=omega) only[q1,go_sem];refine⟨_,_,Wk.ownNil (j:=h.length+3) (i:=0) (k:=h.length+15) (v:=1) (ty:=45) (cs:= [.nl]) (ve:=0) (sz:=7) ?m1 rfl ?m2,?_⟩
 case m1=>simp only[go_sem]
 case m2=>simp only[go_sem]
 simp (disch:=omega) only[List.set_cons_zero,go_sem];have bne5:(h.length+6 !=h.length+5)=true:=by simp
 have zc: ∀g l,valL g .len [qv l]= .int .i64 l.length:=λ_ _=>rfl
 have zd: ∀g l,okL g .len [qv l]=True:=λ_ _=>eqt trivial
 refine kl ?T ?H ?h1 ?h2
 case h1=>
  simp (disch:=omega) only[zc,zd,go_sem]
  repeat' first|(with_reducible apply aiA)|(refine qE (qCS _) (by exact flk) ?_;simp (disch:=omega) only[zc,zd,go_sem])
  all_goals first
   |omega
   |rfl
   |exact bne5
 case h2=>
 simp (disch:=omega) only[go_sem];obtain⟨S,hS⟩: ∃S:Nat,s=S:=⟨s.toNat,om⟩
 subst hS;rw[itn]at hN ⊢;have hSl:S<x.sig.length:=by omega
 obtain⟨MC,hMC⟩:=wg ( [AV.int .i64 x.col.length,.int .i64 x.col.length,.nl])
 rw[<-hMC];obtain⟨O5,hO5⟩:=wg (AObj.mem 1 39 (AV.int .i64 x.col.length:: .int .i64 x.col.length:: .nl::List.drop 3 (zM [.int .i64 0,.int .i64 0,.nl] 1)))
 rw[<-hO5];obtain⟨X0,hX0⟩:=wg (AObj.mem 1 26 [.str x.sec,strs x.sig,qn x.tok,qv x.col])
 have lX0: ∀n,lowO n X0:=by
  intro n;rw[hX0];intro c hc;simp at hc;rcases hc with rfl|rfl|rfl|rfl<;>rfl
 refine qk (T:=λi:EsS=>qP 154 [(1,.nl),(3,.int .i64 (S:Int)),(4,.op h.length 1 0),(13,qx []),(16,.op (h.length+3) 1 0),(17,.op (h.length+4) 1 0),(18,.int .i64 (nxT x [] i.k:Int)),(78,.osl (h.length+6) 1 3 0 1),(79,.int .i64 1),(80,.int .i64 i.k)])
  (H:=λi=>h++ [.mem 1 26 [.str x.sec,strs x.sig,qn x.tok,qv x.col],.emp 1,.emp 2,.mem 1 45 [.osl (h.length+15) i.vb 7 0 (rwK x [] [] S i.k).length],.mem 1 135 [.fn (.func 69) [] [.op (h.length+3) 1 0]],O5,.mem 1 39 MC,i.O7,i.O8,i.O9,i.O10,i.O11,i.O12,.emp 0,.emp 0,zw i.vb 133 (zG (bsW (rwK x [] [] S i.k)))])
  (inv:=λi=>i.k<=1∧ ∀O∈ [i.O7,i.O8,i.O9,i.O10,i.O11,i.O12],qz [O] 0=true∧ ∀n,lowO n O) (m:=λi=>1-i.k) ⟨0,0,.emp 0,.emp 0,.emp 0,.emp 0,.emp 0,.emp 0⟩ ⟨nzl _,λO hO=>by
   simp at hO;subst hO;exact⟨rfl,λ_=>trivial⟩⟩ (Wk.temps ?_) ?_
 ·(simp only[go_sem,qf,qc,qa,qe];try (repeat' first|(with_reducible apply aiA)|(apply qg;omega)|(apply qd;rfl)|exact qi))
  done
 rintro⟨k,vb,O7,O8,O9,O10,O11,O12⟩ ⟨i1,i2⟩ K hK;simp only at i1 i2 hK;obtain⟨s7,l7⟩:=i2 O7 (by simp);obtain⟨s8,l8⟩:=i2 O8 (by simp);obtain⟨s9,l9⟩:=i2 O9 (by simp);obtain⟨s10,l10⟩:=i2 O10 (by simp);obtain⟨s11,l11⟩:=i2 O11 (by simp);obtain⟨s12,l12⟩:=i2 O12 (by simp);have s7': ∀m,qz (O7::m) 0=true:=λ_=>s7
 have s8': ∀m,qz (O8::m) 0=true:=λ_=>s8
 by_cases hk:k<=0
 case neg=>
  have q1:((k:Int)<(1:Int))=False:=wl;have eR:rwK x [] [] S k=rwA x [] [] S:=by unfold rwK;rw[lnl,ine hk]
  rw[eR]
  by_cases g5:1024<(rwA x [] [] S).length
  ·have q5:((1024:Int)<(rwA x [] [] S).length)=True:=wj;simp only[ipo g5];simp (disch:=omega) only[q1,q5,go_sem]
   repeat' first|(apply qb;exact rvk;simp only[go_sem])|with_reducible apply aiA|exact clz|fail
   exact VLe.tup ⟨qU,qi,trivial⟩
  ·have q5:((1024:Int)<(rwA x [] [] S).length)=False:=wl;simp only[ine g5];simp (disch:=omega) only[q1,q5,go_sem]
   repeat' first|(apply qb;exact rvk;simp only[go_sem])|with_reducible apply aiA|exact clz|fail
   exact VLe.tup ⟨qdX (jx _).symm,qi,trivial⟩
 have q1:((k:Int)<(1:Int))=True:=wj;have q2:(0<=(k:Int))=True:=wj;have hk0:k=0:=by omega
 have hMl:MC.length=3:=by rw[hMC];rfl
 have q3:(k*3+3<=MC.length)=True:=wj;have eR:rwK x [] [] S k=rwL x [] [] S k:=by unfold rwK;rw[lnl,ipo hk]
 have eN:nxT x [] k=jq [] k:=by unfold nxT;rw[lnl,ipo hk]
 rw[eR,eN];obtain⟨f,hf⟩:=wg x.col.length
 obtain⟨t',ht'⟩:=wg x.col.length
 obtain⟨RV,hRV⟩:=wg AV.nl
 have eM:List.take 3 (List.drop (k*3) MC)= [.int .i64 (f:Int),.int .i64 (t':Int),RV]:=by rw[hk0,hMC,hf,ht',hRV];rfl
 have a5:jq [] k<=f:=by rw[hk0];exact nzl _
 have a6:f<=x.col.length:=by omega
 have lRV: ∀n,qV n RV=true:=λn=>by rw[hRV];rfl
 have c3:=λh=>qBg x (jq [] k) f S h
 have hit:=itS x S (jq [] k) f hz ho hSl a6 a5;have hpF:=UW ho hSl (f:=jq [] k) (d:=f-jq [] k) om;obtain⟨ps,hps⟩:=wg (spk x S (jq [] k) (f-jq [] k))
 have hxl:(spX x S (jq [] k) (f-jq [] k))=ps.map λp=> [.agg (pcC p)]:=by unfold spX;rw[hps]
 rw[hxl]at hit;rw[<-hps]at hpF;unfold coC at c3 hit;simp (disch:=omega) only[q1,q2,q3,eM,s7',s8',go_sem]
 repeat' first|(refine cA (c3 _) flk ?_;simp (disch:=omega) only[go_sem])|with_reducible apply aiA|exact clz|fail
 obtain⟨L0,hL0⟩:=wg (rwL x [] [] S k)
 have hLF: ∀r∈L0,PcF r.p:=by rw[hL0];exact qfR ho hus hSl (λi hi=>absurd hi (by simp)) hk
 have hLn:(L0++rwM ps (-1) (-1)).length<=1000000000:=by
  refine Nat.le_trans ?_ hN;rw[hL0,hps,hf,hk0];exact nlr _
 rw[<-hL0];obtain⟨P7,hP7⟩:=wg (AObj.mem (qo (some O7)+1) 3 [.int .i64 (k:Int)])
 obtain⟨P8,hP8⟩:=wg (AObj.mem (qo (some O8)+1) 39 [.int .i64 (f:Int),.int .i64 (t':Int),RV])
 have hP7l:qz [P7] 0=true∧ ∀n,lowO n P7:=by
  rw[hP7];refine⟨rfl,λn c hc=> ?_⟩;rw[List.mem_singleton]at hc;subst hc;rfl
 have hP8l:qz [P8] 0=true∧ ∀n,lowO n P8:=by
  rw[hP8];refine⟨rfl,λn c hc=> ?_⟩;simp only[List.mem_cons,List.not_mem_nil,or_false]at hc;rcases hc with rfl|rfl|rfl
  ·rfl
  ·rfl
  ·exact lRV n
 have cP7: ∀m,cellsOf (P7::m) 0 (qo (some O7)+1)=some [.int .i64 (k:Int)]:=λm=>by rw[hP7];simp only[go_sem]
 rw[<-hP7,<-hP8];have lP: ∀L:List Rw,∀v n,lowO n (zw v 133 (zG (bsW L))):=λL v n=>jE (qcd _ n)
 have hLow: ∀(L M:List Rw) (v w:Nat) O A,(∀n,lowO n A)->LowI (h++ [.mem 1 26 [.str x.sec,strs x.sig,qn x.tok,qv x.col],.emp 1,.emp 2,.mem 1 45 [.osl (h.length+15) w 7 0 M.length],.mem 1 135 [.fn (.func 69) [] [.op (h.length+3) 1 0]],O5,.mem 1 39 MC,P7,P8,O,O10,O11,O12,.emp 0,.emp 0,zw w 133 (zG (bsW M))])
   (h++ [.mem 1 26 [.str x.sec,strs x.sig,qn x.tok,qv x.col],.emp 1,.emp 2,.mem 1 45 [.osl (h.length+15) v 7 0 L.length],.mem 1 135 [.fn (.func 69) [] [.op (h.length+3) 1 0]],O5,.mem 1 39 MC,P7,P8,A,O10,O11,O12,.emp 0,.emp 0,zw v 133 (zG (bsW L))]):=λL M v w O A lA=>by
  refine⟨by simp,λo ho=> ?_⟩;rcases List.mem_append.1 ho with h1|h1
  ·exact .inl (List.mem_append_left _ h1)
  ·simp only[List.mem_cons,List.not_mem_nil,or_false]at h1;rcases h1 with rfl|rfl|rfl|rfl|rfl|rfl|rfl|rfl|rfl|rfl|rfl|rfl|rfl|rfl|rfl|rfl
   ·left;simp
   ·left;simp
   ·left;simp
   ·right;refine⟨λc hc=> ?_,λc hc=> ?_⟩<;>
    ·rw[List.mem_singleton]at hc;subst hc;simp[qV]
     try omega
   ·left;simp
   ·left;simp
   ·left;simp
   ·left;simp
   ·left;simp
   ·right;exact⟨lA _,lA _⟩
   ·left;simp
   ·left;simp
   ·left;simp
   ·left;simp
   ·left;simp
   ·right;exact⟨lP _ _ _,lP _ _ _⟩
 refine zJ hit (λa ha=> ?_)
  (S:=λi hh=> ∃A,qz [A] 0=true∧(∀n,lowO n A)∧hh=h++ [.mem 1 26 [.str x.sec,strs x.sig,qn x.tok,qv x.col],.emp 1,.emp 2,.mem 1 45 [.osl (h.length+15) (vb+i) 7 0 (L0++rwM (ps.take i) (-1) (-1)).length],.mem 1 135 [.fn (.func 69) [] [.op (h.length+3) 1 0]],O5,.mem 1 39 MC,P7,P8,A,O10,O11,O12,.emp 0,.emp 0,zw (vb+i) 133 (zG (bsW (L0++rwM (ps.take i) (-1) (-1))))]) (E:=λ_ _=>False) ?_ ?_ ?_ ?_ ?_ ?_ ?_
 ·obtain⟨c,_,rfl⟩:=List.mem_map.1 ha;rfl
 ·rintro i hh ⟨A,_,lA,rfl⟩;exact hLow _ _ _ _ _ _ lA
 ·intro s hh hf;exact hf.elim
 ·exact⟨O9,s9,l9,by simp[rwM]⟩
 ·simp[qV,qV.lowVs]
  repeat' apply aiA
  all_goals first|rfl|omega|exact lRV _
 ·rintro i hh tl LI TS hi ⟨A,sA,lA,rfl⟩ hlen K1 K2 hK1 hN1 hR1 hX1;have hi':i<ps.length:=by rw[List.length_map]at hi;exact hi
  rw[List.getElem_map];have sA': ∀m,qz (A::m) 0=true:=λ_=>sA
  have hS:L0++rwM (ps.take (i+1)) (-1) (-1)=(L0++rwM (ps.take i) (-1) (-1))++ [⟨ps.getD i default,-1,-1⟩]:=by
   unfold rwM;rw[List.take_add_one,zD hi',List.map_append,gdqA,zD hi',List.append_assoc];rfl
  have eG:ps[i]=ps.getD i default:=by rw[gdqA,zD hi'];rfl
  rw[eG];have hpm:ps.getD i default∈ps:=zS hi';obtain⟨p,hp'⟩:=wg (ps.getD i default)
  rw[<-hp']at hS hpm ⊢;obtain⟨M,hM⟩:=wg (L0++rwM (ps.take i) (-1) (-1))
  have hMF: ∀r∈M,PcF r.p:=λr hr=>by
   rw[hM]at hr;rcases List.mem_append.1 hr with hr|hr
   ·exact hLF r hr
   ·exact hpF _ (List.mem_of_mem_take (cF.1 hr).1)
  have hMn:M.length<=1000000000:=by
   rw[hM,lap,jr,List.length_take];rw[lap,jr]at hLn;omega
  rw[<-hM]at hS ⊢;simp only[kN,List.append_assoc,lca,lna];simp (disch:=omega) only[sA',pcC,tkC,go_sem];refine hK1 _ _ (h++ [.mem 1 26 [.str x.sec,strs x.sig,qn x.tok,qv x.col],.emp 1,.emp 2,.mem 1 45 [.osl (h.length+15) (vb+i) 7 0 M.length],.mem 1 135 [.fn (.func 69) [] [.op (h.length+3) 1 0]],O5,.mem 1 39 MC,P7,P8,(.mem (qo (some A)+1) 131 (pcC p)),O10,O11,O12,.emp 0,.emp 0,zw (vb+i) 133 (zG (bsW M))]) ?_ ?_ ?_
  ·simp[pcC,tkC]
  ·simp
  ·simp only[List.append_assoc,lca,lna];simp (disch:=omega) only[pcC,tkC,go_sem]
   repeat' first|with_reducible apply aiA|exact clz|fail
   refine kC (qvR (a:=h.length+3) (b:=h.length+15) (c:=h.length) (va:=1) (vb:=vb+i) (Z:= .mem 1 26 [.str x.sec,strs x.sig,qn x.tok,qv x.col]) ⟨by simp,by simp,by simp,om,om,om⟩ M p (-1) (-1) (by simp only[go_sem]) (by simp only[go_sem]) (by simp only[go_sem]) (by rw[<-hX0];exact lX0) (hpF p hpm) hMn hMF) ?_;simp (disch:=omega) only[go_sem];refine hN1 _ _ (h++ [.mem 1 26 [.str x.sec,strs x.sig,qn x.tok,qv x.col],.emp 1,.emp 2,.mem 1 45 [.osl (h.length+15) (vb+(i+1)) 7 0 (M++ [(⟨p,-1,-1⟩:Rw)]).length],.mem 1 135 [.fn (.func 69) [] [.op (h.length+3) 1 0]],O5,.mem 1 39 MC,P7,P8,(.mem (qo (some A)+1) 131 (pcC p)),O10,O11,O12,.emp 0,.emp 0,zw (vb+(i+1)) 133 (zG (bsW (M++ [(⟨p,-1,-1⟩:Rw)])))]) ?_ ?_ ⟨_,rfl,?_,by rw[hS]⟩
   ·simp[pcC,tkC,Nat.add_assoc]
   ·simp
   ·intro n c hc;simp[pcC,tkC]at hc;rcases hc with rfl|rfl|rfl|rfl|rfl|rfl|rfl<;>rfl
 ·rintro hh ⟨A,sA,lA,rfl⟩;rw[List.length_map,List.take_length];obtain⟨L1,hL1⟩:=wg (L0++rwM ps (-1) (-1))
  rw[<-hL1]
  by_cases hkl:k<0
  case neg=>
   have hke:k=0:=by omega
   obtain⟨b1,b2⟩:f=x.col.length∧t'=x.col.length:=⟨hf,ht'⟩
   have q4:((k:Int)=0)=True:=wj;rw[hP7,hP8];simp (disch:=omega) only[q4,go_sem]
   repeat' first|with_reducible apply aiA|exact clz|fail
   rw[<-hP7,<-hP8];have e1:rwK x [] [] S (k+1)=L1:=by
    unfold rwK;rw[ine (by simp),hL1,hL0,hps,b1,hke];rfl
   have e2:nxT x [] (k+1)=t':=by unfold nxT;rw[ine (by simp),b2]
   refine hK _ _ ⟨k+1,vb+ps.length,P7,P8,A,O10,O11,O12⟩ ⟨by simp only;omega,λO hO=> ?_⟩ (by simp only;omega) ?_
   ·simp only[List.mem_cons,List.not_mem_nil,or_false]at hO;rcases hO with rfl|rfl|rfl|rfl|rfl|rfl
    ·exact hP7l
    ·exact hP8l
    ·exact⟨sA,lA⟩
    ·exact⟨s10,l10⟩
    ·exact⟨s11,l11⟩
    ·exact⟨s12,l12⟩
   ·simp only[e1,e2];refine Wk.temps ?_
    (simp only[go_sem,qf,qc,qa,qe];try exact we)
  exact absurd hkl (nnz k)
 ·intro e hh hf;exact hf.elim
end RC
end
