import Derived.Test.YtmieflnoheifbaaGreatDoorK15
import Derived.Test.YtmieflnoheifbaaGreatDoorK3
import Derived.Test.YtmieflnoheifbaaGreatDoorK5
import Derived.Test.YtmieflnoheifbaaGreatDoorK8
import Derived.Test.YtmieflnoheifbaaGreatDoorProg
import Derived.Test.YtmieflnoheifbaaGreatDoorK12
import Derived.Test.YtmieflnoheifbaaGreatDoorK11
import Derived.Test.YtmieflnoheifbaaGreatDoorK13
import Derived.Test.YtmieflnoheifbaaGreatDoorK9
import Derived.Shelf.Strings.OnBuilder
import Derived.Shelf.Slices.In.SortNone
import Derived.Test.YtmieflnoheifbaaGreatDoorK10
import Derived.Lib.ItoaLen
import Derived.Test.YtmieflnoheifbaaGreatDoorK14
set_option linter.all false
set_option maxHeartbeats 256000000
set_option maxRecDepth 100000
section
open Go Go.Proofs AF HY LN
namespace RC
def qam(x:Co)(l:List Un)(d:List Dc)(n:Nat):List Int:=(List.range l.length).map λk=>qbs x l d k n
theorem qgD(x:Co)(l:List Un)(d:List Dc)(n:Nat):(qam x l d n).length=l.length:=by unfold qam;simp
theorem quj{x:Co}{l:List Un}{d:List Dc}{n k:Nat}(hk:k<l.length):(qam x l d n).getD k 0=qbs x l d k n:=by
 unfold qam;rw[gdqA,List.getElem?_map,List.getElem?_range hk];rfl
theorem qzI(x:Co)(l:List Un)(d:List Dc):qam x l d 0=List.replicate l.length (-1):=by
 unfold qam;refine List.ext_getElem (by simp) (λi h1 h2=> ?_);simp[qbs]
theorem qlD{x:Co}{l:List Un}{d:List Dc}{n k:Nat}(hk:k<l.length)(he:eE x l (d.getD n default)=k):qam x l d (n+1)=(qam x l d n).set k (n:Int):=by
 unfold qam;refine List.ext_getElem (by simp) (λi h1 h2=> ?_);rw[List.getElem_set];simp only[List.getElem_map,List.getElem_range]
 by_cases g:k=i
 ·subst g;rw[ipo rfl];unfold qbs;rw[ipo he]
 ·rw[ine g]
  conv=>lhs;unfold qbs
  rw[ine (by rw[he];omega)]
theorem qzX{x:Co}{l:List Un}{d:List Dc}{i:Nat}(hi:i<d.length):(plG x l d d.length).getD i 0=eE x l (d.getD i default):=by
 unfold plG;rw[List.take_length,gdqA,List.getElem?_map,zH hi,gdqA,zH hi];rfl
structure EsS where
 k:Nat
 vb:Nat
 O7:AObj
 O8:AObj
 O9:AObj
 O10:AObj
 O11:AObj
 O12:AObj
def rwK(x:Co)(l:List Un)(d:List Dc)(s k:Nat):List Rw:=if k<=l.length then rwL x l d s k else rwA x l d s
def nxT(x:Co)(l:List Un)(k:Nat):Nat:=if k<=l.length then jj l k else x.col.length
theorem qdR{v n:Nat}{L:List Wd}{ty:TypeId}{fz:Nat->Bool}{h:we}{d:Nat}(hn:n=L.length):VLe (qg0 (some (zw v ty (jo L))) v 7 0 n (rei fz h (d+1))) (qee L):=by
 subst hn;unfold zw;split
 ·rename_i e
  have:L= []:=by
   cases L with
   |nil=>rfl
   |cons a r=>exact absurd e (by simp[jo,wdC])
  subst this;rw[slOf_emp,ipo rfl];exact zB
 ·rw[slOf_mem,ipo ⟨rfl,by rw[qhk];omega⟩];refine VLe.sl_eq rfl (λi hi=> ?_);simp only[Nat.zero_add];rw[qhj hi];rfl
theorem qAj{x:Co}{l:List Un}{d:List Dc}{s:Nat}: ∀ {j k:Nat},k<=j->(rwL x l d s k).length<=(rwL x l d s j).length:=by
 intro j
 induction j with
 |zero=>
  intro k h;obtain rfl:k=0:=by omega
  exact nlr _
 |succ j ih=>
  intro k h
  by_cases e:k=j+1
  ·subst e;exact nlr _
  ·refine Nat.le_trans (ih (show k<=j by omega)) ?_
   conv=>rhs;unfold rwL
   rw[lap];omega
theorem qmS{x:Co}{l:List Un}{d:List Dc}{s k:Nat}(h:k<=l.length):(rwL x l d s k).length<=(rwA x l d s).length:=by
 refine Nat.le_trans (qAj h) ?_;unfold rwA;rw[lap];omega
theorem quI{x:Co}{l:List Un}(ho:CoOk x)(hus:qci x l=true){k:Nat}(hk:k<l.length){o:Dc}(hE:qdF x l o=0): ∀p∈qqn x l k o,PcF p:=by
 obtain⟨a1,a2,a3,a4,_⟩:=qaE hus hk;obtain⟨p1,p2,p3,p4,p5,p6⟩:=qaU hE;intro p hp;unfold qqn at hp;split at hp
 ·have:=(qg8 p4).2.1
  exact Uy ho this om p hp
 ·split at hp
  ·rename_i g;obtain⟨r1,r2,r3,r4⟩:=qkx p6 g;exact qsb r2 p hp
  ·cases hp
theorem quJ{x:Co}{l:List Un}{d:List Dc}{s:Nat}(ho:CoOk x)(hus:qci x l=true)(hs:s<x.sig.length)(hpl: ∀i,i<d.length->qdF x l (d.getD i default)=0){k:Nat}(hk:k<l.length): ∀r∈rwU x l d s k,PcF r.p:=by
 obtain⟨a1,a2,a3,a4,_⟩:=qaE hus hk;intro r hr;unfold rwU at hr;split at hr
 ·exact Uy ho hs om _ (jF.1 hr).1
 ·rename_i g
  have:=qdw x l d k d.length
  exact quI ho hus hk (hpl _ om) _ (jF.1 hr).1
theorem qfG{x:Co}{l:List Un}{d:List Dc}{s:Nat}(ho:CoOk x)(hus:qci x l=true)(hs:s<x.sig.length)(hpl: ∀i,i<d.length->qdF x l (d.getD i default)=0): ∀ {k:Nat},k<=l.length-> ∀r∈rwL x l d s k,PcF r.p:=by
 intro k
 induction k with
 |zero=>intro _ r hr;cases hr
 |succ k ih=>
  intro hk r hr;obtain⟨a1,a2,a3,a4,_⟩:=qaE hus (show k<l.length by omega);have a5:=qgM hus (show k<l.length by omega);unfold rwL at hr;rcases List.mem_append.1 hr with hr|hr
  ·exact ih om r hr
  ·rcases List.mem_append.1 hr with hr|hr
   ·exact Uy ho hs om _ (jF.1 hr).1
   ·exact quJ ho hus hs hpl om r hr
theorem qET{hh:we}{j k v w:Nat}(n:Nat)(a:Int)(cs:wg)(hj:qq j hh=some (.mem v 3 (.int .i64 a::cs)))(hk:qq k hh=some (.emp w))(h0:0<n)(hl:n<=1000000000):
  ACalls Tryz.prog 68 [.osl j v 1 0 1,.int .i64 (n:Int)] hh (.osl k (w+1) 1 0 n) (qn k (qn j hh (.emp (v+1))) (.mem (w+1) 3 (qU (List.replicate n a)))):=by
 have hne:j≠k:=λe=>by subst e;rw[hj]at hk;cases hk
 have hs:qH hh j=true:=by unfold qH;rw[hj]
 have e1:qeF [j] hh=qn j hh (.emp (v+1)):=by show qn j hh (.emp (qo (qq j hh)+1))=_;rw[hj];rfl
 have hk1:qq k (qn j hh (.emp (v+1)))=some (.emp w):=by rw[qR (λe=>hne e.symm)];exact hk
 refine ACalls.frzd [j] (by show (qH hh j&&true)=true;rw[hs];rfl) ?_;rw[e1];have h1:=qEU a n (qn j hh (.emp (v+1))) k (by unfold qH;rw[hk1]) h0 hl;rw[hk1]at h1;refine h1.le ⟨?_,qi,trivial⟩ (qi);have hc:=qQ hj;have e: [j].contains j=true:=by simp
 simp only[go_sem,e,if_true,hc];rw[hj,slOf_mem,ipo ⟨rfl,by simp⟩];refine VLe.sl_eq rfl (λi hi=> ?_);obtain rfl:i=0:=by omega
 rfl
theorem qEn(x:Co)(l:List Un)(d:List Dc)(s:Int)(h:we)(hz:qfk x)(hu:qoa l)(hp:ku SG h)(hg:z6 h frmN frmC)(hl0:l≠ [])(hd:d.length<=1000000)(ht: ∀o∈d,o.txt.length<=1000)(hN0:vaE x l=0->(rwA x l d s.toNat).length<=1000000000):
  ACalls Tryz.prog 17 [.agg (coC x),jI l,qaH d,.int .i64 s] h (.tup [qee (esR x l d s),.int .i64 (esE x l d s)]) h:=by
 have c1:=λl'=>qtb x l (h++l') hz hu (hp.app l')
 have zu: ∀g l,valL g .len [jI l]= .int .i64 l.length:=λ_ _=>rfl
 have zv: ∀g l,okL g .len [jI l]=True:=λ_ _=>eqt trivial
 have zu1: ∀g l,valL g .len [strs l]= .int .i64 l.length:=λ_ _=>rfl
 have zv1: ∀g l,okL g .len [strs l]=True:=λ_ _=>eqt trivial
 have hE:esE x l d s=(if vaE x l≠0 then vaE x l else if s<0∨(x.sig.length:Int)<=s then 2 else if qbt x l d≠0 then qbt x l d else if 1024<(rwA x l d s.toNat).length then 4 else 0):=rfl;unfold esR
 by_cases g:vaE x l=0
 case neg=>
  have k1:(vaE x l=0)=False:=eqf g;rw[ipo g]at hE;rw[hE,ine g];unfold coC at c1;refine acO UV ?_;simp (disch:=omega) only[qfh,coC,go_sem]
  repeat' first|(refine cA (c1 _) flk ?_;simp (disch:=omega) only[k1,go_sem])|(apply qa;exact rvk;simp only[go_sem])
  exact VLe.tup ⟨zB,qi,trivial⟩
 rw[ine (by simpa using g)]at hE;have hN:=hN0 g;simp only[g]at c1;obtain⟨hca,hus,hcv⟩:=qfa g;have ho:=qad hca
 by_cases g2:s<0
 ·have k2:(s<0)=True:=eqt g2;rw[ipo (.inl g2)]at hE;rw[hE,ine (by decide)];unfold coC at c1;refine acO UV ?_;simp (disch:=omega) only[qfh,coC,go_sem]
  repeat' first|(refine cA (c1 _) flk ?_;simp (disch:=omega) only[k2,go_sem])|(apply qa;exact rvk;simp only[go_sem])
  exact VLe.tup ⟨zB,qi,trivial⟩
 have k2:(s<0)=False:=eqf g2
 by_cases g3:(x.sig.length:Int)<=s
 ·have k3:((x.sig.length:Int)<=s)=True:=eqt g3;rw[ipo (.inr g3)]at hE;rw[hE,ine (by decide)];unfold coC at c1;refine acO UV ?_;simp (disch:=omega) only[qfh,coC,go_sem]
  repeat' first|(refine cA (c1 _) flk ?_;simp (disch:=omega) only[k2,k3,zu1,zv1,go_sem])|(apply qa;exact rvk;simp only[go_sem])
  exact VLe.tup ⟨zB,qi,trivial⟩
 have k3:((x.sig.length:Int)<=s)=False:=eqf g3;rw[ine (λe=>e.elim g2 g3)]at hE;have c2:=λl'=>qCU x l d (h++l') hz hu (hp.app l') hg.app hca hd ht
 unfold qz0 at c2
 by_cases g4:qbt x l d=0
 case neg=>
  have k4:(qbt x l d=0)=False:=eqf g4;simp only[ine g4]at c2;rw[ipo g4]at hE;rw[hE,ine g4];unfold coC at c1 c2;refine acO UV ?_;simp (disch:=omega) only[qfh,coC,go_sem]
  repeat' first|((first|refine cA (c1 _) ?_ ?_|refine cA (c2 _) ?_ ?_);exact flk;simp (disch:=omega) only[k2,k3,k4,zu1,zv1,go_sem])|(apply qa;exact rvk;simp only[go_sem])|with_reducible apply aiA|exact clz|fail
  exact VLe.tup ⟨zB,qi,trivial⟩
 rw[ine (by simpa using g4)]at hE;simp only[g4,if_true]at c2;rw[hE];unfold coC at c1 c2;refine acO UV ?_;simp (disch:=omega) only[qfh,coC,go_sem]
 repeat' first|((first|refine cA (c1 _) ?_ ?_|refine cA (c2 _) ?_ ?_);exact flk;simp (disch:=omega) only[k2,k3,zu1,zv1,zu,zv,go_sem])|with_reducible apply aiA|exact clz|fail
 have hlp:0<l.length:=List.length_pos_iff.2 hl0;refine qy (qET (j:=h.length+2) (k:=h.length+13) (w:=0) l.length (-1) (List.drop 1 (zf [.int .i64 0] 1)) ?j1 ?j2 hlp hu.n) (by exact flk) ?_
 case j1=>simp only[go_sem]
 case j2=>simp only[go_sem]
 have zi: ∀g l,valL g .len [qP l]= .int .i64 l.length:=λ_ _=>rfl
 have zj: ∀g l,okL g .len [qP l]=True:=λ_ _=>eqt trivial
 have ePL:(plG x l d d.length).length=d.length:=by unfold plG;rw[List.length_map,List.take_length]
 simp (disch:=omega) only[zi,zj,ePL,go_sem];rw[<-qzI x l d];have hpl: ∀i,i<d.length->qdF x l (d.getD i default)=0:=by
  have:=g4
  unfold qbt at this;split at this
  ·cases this
  ·intro i hi;exact jR.1 this i hi
 refine qt (T:=λi:Nat=>zg 154 [(1,jI l),(2,qaH d),(3,.int .i64 s),(4,.op h.length 1 0),(13,.osl (h.length+13) 1 1 0 l.length),(55,.sl d.length λi=> [.int .i64 ((plG x l d d.length).getD i 0)]),(56,.int .i64 d.length),(57,.int .i64 i)])
  (H:=λi=>h++ [.mem 1 26 [.str x.sec,strs x.sig,qp x.tok,qw x.col],.emp 1,.emp 2,.emp 0,.emp 0,.emp 0,.emp 0,.emp 0,.emp 0,.emp 0,.emp 0,.emp 0,.emp 0,.mem 1 3 (qU (qam x l d i)),.emp 0,.emp 0])
  (inv:=λi=>i<=d.length) (m:=λi=>d.length-i) 0 (nzl _) (Wk.temps ?_) ?_
 ·(simp only[go_sem,qh,qf,qb,qg];try (repeat' first|(with_reducible apply aiA)|(apply qe;omega)|(apply qd;rfl)|exact qi))
  have eI:qP (plG x l d d.length)= .sl d.length λi=> [.int .i64 ((plG x l d d.length).getD i 0)]:=by unfold qP;rw[ePL]
  rw[eI];exact qi
 rintro i i1 K hK;have hll:=qgD x l d i;have hlc:=jL (qam x l d i)
 by_cases hi:i<d.length
 ·have q1:((i:Int)<d.length)=True:=wh;have q2:(0<=(i:Int))=True:=wh;have e0:=hpl i hi;obtain⟨_,_,_,_,p5,_⟩:=qaU e0;obtain⟨k,hk⟩: ∃k:Nat,eE x l (d.getD i default)=k:=⟨(eE x l (d.getD i default)).toNat,om⟩
  have hkl:k<l.length:=by
   have:=(qtR l (kW x (zN x (d.getD i default).sig).toNat (d.getD i default).tok)).2
   have h2:fnU l (kW x (zN x (d.getD i default).sig).toNat (d.getD i default).tok)=k:=hk;omega
  have q3:((k:Int)<l.length)=True:=wh;have q4:(0<=(k:Int))=True:=wh;have eA:=qzX (x:=x) (l:=l) hi;rw[hk]at eA;have hst:=qlD (n:=i) hkl hk;simp (disch:=omega) only[q1,q2,q3,q4,eA,hlc,hll,go_sem]
  repeat' first|with_reducible apply aiA|exact clz|fail
  have eB:List.take k (qU (qam x l d i))++ [AV.int .i64 (i:Int)]++List.drop (k+1) (qU (qam x l d i))=qU (qam x l d (i+1)):=by
   rw[hst];unfold qU;rw[List.set_eq_take_append_cons_drop,ipo (by rw[hll];exact hkl)];simp[List.map_append,List.map_take,List.map_drop]
  rw[eB];refine hK _ _ (i+1) hi om (Wk.temps ?_)
  (simp only[go_sem,qh,qf,qb,qg];try exact wa)
 ·have q1:((i:Int)<d.length)=False:=wi;obtain rfl:i=d.length:=by omega
  simp (disch:=omega) only[q1,go_sem];refine⟨_,_,Wk.ownNil (j:=h.length+3) (i:=0) (k:=h.length+15) (v:=1) (ty:=45) (cs:= [.nl]) (ve:=0) (sz:=7) ?m1 rfl ?m2,?_⟩
  case m1=>simp only[go_sem]
  case m2=>simp only[go_sem]
  have s1:=λh=>qne h l
  have eP:=qbO l;simp (disch:=omega) only[List.set_cons_zero,go_sem];have hun:=hu.n;have bne5:(h.length+14 !=h.length+5)=true:=by simp
  have zc: ∀g l,valL g .len [qw l]= .int .i64 l.length:=λ_ _=>rfl
  have zd: ∀g l,okL g .len [qw l]=True:=λ_ _=>eqt trivial
  refine kg ?T ?H ?h1 ?h2
  case h1=>
   simp (disch:=omega) only[List.set_cons_zero,zc,zd,go_sem]
   repeat' first|(with_reducible apply aiA)|(refine qy (qEi l _ (h.length+14) (by simp only[go_sem]) hl0 hu.n) (by exact flk) ?_;simp (disch:=omega) only[List.set_cons_zero,eP,zc,zd,go_sem])
   all_goals first
    |omega
    |rfl
    |exact bne5
  case h2=>
  simp (disch:=omega) only[go_sem];obtain⟨S,hS⟩: ∃S:Nat,s=S:=⟨s.toNat,om⟩
  subst hS;rw[itn]at hN ⊢;have hSl:S<x.sig.length:=by omega
  have eTk:List.take (l.length*3) (UO l)=UO l:=ltl om;rw[eTk];obtain⟨MC,hMC⟩:=wc (UO l++ [AV.int .i64 x.col.length,.int .i64 x.col.length,.nl])
  have hMl:MC.length=(l.length+1)*3:=by rw[hMC];simp[eP];omega
  have eM1: ∀k,k<l.length->List.take 3 (List.drop (k*3) MC)=unC (l.getD k default):=λk hk=>by
   rw[hMC,List.drop_append_of_le_length om,List.take_append_of_le_length (by rw[List.length_drop];omega)];exact qhg hk
  have eM2:List.take 3 (List.drop (l.length*3) MC)= [AV.int .i64 x.col.length,.int .i64 x.col.length,.nl]:=by
   rw[hMC,List.drop_append,List.drop_eq_nil_of_le om,lna,eP,Nat.sub_self];rfl
  rw[<-hMC];obtain⟨O5,hO5⟩:=wc (AObj.mem 1 39 (AV.int .i64 x.col.length:: .int .i64 x.col.length:: .nl::List.drop 3 (zf [.int .i64 0,.int .i64 0,.nl] 1)))
  rw[<-hO5];obtain⟨LST,hLST⟩: ∃L,L=AObj.mem 1 3 (qU (qam x l d d.length)):=⟨_,rfl⟩
  have hll:=qgD x l d d.length;have hlc:=jL (qam x l d d.length);obtain⟨X0,hX0⟩:=wc (AObj.mem 1 26 [.str x.sec,strs x.sig,qp x.tok,qw x.col])
  have lX0: ∀n,lowO n X0:=by
   intro n;rw[hX0];intro c hc;simp at hc;rcases hc with rfl|rfl|rfl|rfl<;>rfl
  refine qt (T:=λi:EsS=>zg 154 [(1,jI l),(2,qaH d),(3,.int .i64 (S:Int)),(4,.op h.length 1 0),(13,.osl (h.length+13) 1 1 0 l.length),(16,.op (h.length+3) 1 0),(17,.op (h.length+4) 1 0),(18,.int .i64 (nxT x l i.k:Int)),(78,.osl (h.length+14) 2 3 0 (l.length+1)),(79,.int .i64 ((l.length+1:Nat):Int)),(80,.int .i64 i.k)])
   (H:=λi=>h++ [.mem 1 26 [.str x.sec,strs x.sig,qp x.tok,qw x.col],.emp 1,.emp 2,.mem 1 45 [.osl (h.length+15) i.vb 7 0 (rwK x l d S i.k).length],.mem 1 135 [.fn (.func 69) [] [.op (h.length+3) 1 0]],O5,.emp 0,i.O7,i.O8,i.O9,i.O10,i.O11,i.O12,.mem 1 3 (qU (qam x l d d.length)),.mem 2 39 MC,zw i.vb 133 (jo (bsW (rwK x l d S i.k)))])
   (inv:=λi=>i.k<=l.length+1∧ ∀O∈ [i.O7,i.O8,i.O9,i.O10,i.O11,i.O12],qH [O] 0=true∧ ∀n,lowO n O) (m:=λi=>l.length+1-i.k) ⟨0,0,.emp 0,.emp 0,.emp 0,.emp 0,.emp 0,.emp 0⟩ ⟨nzl _,λO hO=>by
    simp at hO;subst hO;exact⟨rfl,λ_=>trivial⟩⟩ (Wk.temps ?_) ?_
  ·(simp only[go_sem,qh,qf,qb,qg];try (repeat' first|(with_reducible apply aiA)|(apply qe;omega)|(apply qd;rfl)|exact qi))
   done
  rintro⟨k,vb,O7,O8,O9,O10,O11,O12⟩ ⟨i1,i2⟩ K hK;simp only at i1 i2 hK;obtain⟨s7,l7⟩:=i2 O7 (by simp);obtain⟨s8,l8⟩:=i2 O8 (by simp);obtain⟨s9,l9⟩:=i2 O9 (by simp);obtain⟨s10,l10⟩:=i2 O10 (by simp);obtain⟨s11,l11⟩:=i2 O11 (by simp);obtain⟨s12,l12⟩:=i2 O12 (by simp);have s7': ∀m,qH (O7::m) 0=true:=λ_=>s7
  have s8': ∀m,qH (O8::m) 0=true:=λ_=>s8
  by_cases hk:k<=l.length
  case neg=>
   have q1:((k:Int)<((l.length+1:Nat):Int))=False:=wi;have eR:rwK x l d S k=rwA x l d S:=by unfold rwK;rw[ine hk]
   rw[eR]
   by_cases g5:1024<(rwA x l d S).length
   ·have q5:((1024:Int)<(rwA x l d S).length)=True:=wh;simp only[ipo g5];simp (disch:=omega) only[q1,q5,go_sem]
    repeat' first|(apply qa;exact rvk;simp only[go_sem])|with_reducible apply aiA|exact clz|fail
    exact VLe.tup ⟨zB,qi,trivial⟩
   ·have q5:((1024:Int)<(rwA x l d S).length)=False:=wi;simp only[ine g5];simp (disch:=omega) only[q1,q5,go_sem]
    repeat' first|(apply qa;exact rvk;simp only[go_sem])|with_reducible apply aiA|exact clz|fail
    exact VLe.tup ⟨qdR (gH _).symm,qi,trivial⟩
  have q1:((k:Int)<((l.length+1:Nat):Int))=True:=wh;have q2:(0<=(k:Int))=True:=wh;have q3:(k*3+3<=MC.length)=True:=wh;have eR:rwK x l d S k=rwL x l d S k:=by unfold rwK;rw[ipo hk]
  have eN:nxT x l k=jj l k:=by unfold nxT;rw[ipo hk]
  rw[eR,eN];obtain⟨f,t',RV,eM,a5,a6,lRV,hA,hB⟩: ∃(f t':Nat) (RV:AV),List.take 3 (List.drop (k*3) MC)= [.int .i64 (f:Int),.int .i64 (t':Int),RV]∧jj l k<=f∧f<=x.col.length∧(∀n,qS n RV=true)∧(k<l.length->f=frN l k∧t'=toN l k∧RV=ky (l.getD k default).rds)∧(k=l.length->f=x.col.length∧t'=x.col.length):=by
   by_cases hkl:k<l.length
   ·obtain⟨a1,a2,a3,a4,_⟩:=qaE hus hkl;have eM:=eM1 k hkl;unfold unC at eM;rw[a1,a2]at eM;exact⟨frN l k,toN l k,_,eM,qgM hus hkl,om,λ_=>rfl,λ_=>⟨rfl,rfl,rfl⟩,λe=>by omega⟩
   ·obtain rfl:k=l.length:=by omega
    exact⟨x.col.length,x.col.length,.nl,eM2,qaV hus (nlr _),nlr _,λ_=>rfl,λe=>by omega,λ_=>⟨rfl,rfl⟩⟩
  have c3:=λh=>qAx x (jj l k) f S h
  have hit:=itS x S (jj l k) f hz ho hSl a6 a5;have hpF:=Uy ho hSl (f:=jj l k) (d:=f-jj l k) om;obtain⟨ps,hps⟩:=wc (spk x S (jj l k) (f-jj l k))
  have hxl:(spX x S (jj l k) (f-jj l k))=ps.map λp=> [.agg (pcC p)]:=by unfold spX;rw[hps]
  rw[hxl]at hit;rw[<-hps]at hpF;unfold coC at c3 hit;simp (disch:=omega) only[q1,q2,q3,eM,s7',s8',go_sem]
  repeat' first|(refine cA (c3 _) flk ?_;simp (disch:=omega) only[go_sem])
  obtain⟨L0,hL0⟩:=wc (rwL x l d S k)
  have hLF: ∀r∈L0,PcF r.p:=by rw[hL0];exact qfG ho hus hSl hpl hk
  have hLn:(L0++rwM ps (-1) (-1)).length<=1000000000:=by
   refine Nat.le_trans ?_ hN
   by_cases hkl:k<l.length
   ·obtain⟨b1,_⟩:=hA hkl;refine Nat.le_trans ?_ (qmS (show k+1<=l.length by omega));rw[hL0,hps,b1]
    conv=>rhs;unfold rwL
    rw[lap,lap,lap];show _<=_+((rwM _ _ _).length+_);omega
   ·obtain⟨b1,_⟩:=hB om;have hke:k=l.length:=by omega
    rw[hL0,hps,b1,hke];exact nlr _
  rw[<-hL0];obtain⟨P7,hP7⟩:=wc (AObj.mem (qo (some O7)+1) 3 [.int .i64 (k:Int)])
  obtain⟨P8,hP8⟩:=wc (AObj.mem (qo (some O8)+1) 39 [.int .i64 (f:Int),.int .i64 (t':Int),RV])
  have hP7l:qH [P7] 0=true∧ ∀n,lowO n P7:=by
   rw[hP7];refine⟨rfl,λn c hc=> ?_⟩;rw[List.mem_singleton]at hc;subst hc;rfl
  have hP8l:qH [P8] 0=true∧ ∀n,lowO n P8:=by
   rw[hP8];refine⟨rfl,λn c hc=> ?_⟩;simp only[List.mem_cons,List.not_mem_nil,or_false]at hc;rcases hc with rfl|rfl|rfl
   ·rfl
   ·rfl
   ·exact lRV n
  have cP7: ∀m,cellsOf (P7::m) 0 (qo (some O7)+1)=some [.int .i64 (k:Int)]:=λm=>by rw[hP7];simp only[go_sem]
  rw[<-hP7,<-hP8];have lP: ∀L:List Rw,∀v n,lowO n (zw v 133 (jo (bsW L))):=λL v n=>jl (qbQ _ n)
  have hLow: ∀(L M:List Rw) (v w:Nat) O A,(∀n,lowO n A)->LowI (h++ [.mem 1 26 [.str x.sec,strs x.sig,qp x.tok,qw x.col],.emp 1,.emp 2,.mem 1 45 [.osl (h.length+15) w 7 0 M.length],.mem 1 135 [.fn (.func 69) [] [.op (h.length+3) 1 0]],O5,.emp 0,P7,P8,O,O10,O11,O12,.mem 1 3 (qU (qam x l d d.length)),.mem 2 39 MC,zw w 133 (jo (bsW M))])
    (h++ [.mem 1 26 [.str x.sec,strs x.sig,qp x.tok,qw x.col],.emp 1,.emp 2,.mem 1 45 [.osl (h.length+15) v 7 0 L.length],.mem 1 135 [.fn (.func 69) [] [.op (h.length+3) 1 0]],O5,.emp 0,P7,P8,A,O10,O11,O12,.mem 1 3 (qU (qam x l d d.length)),.mem 2 39 MC,zw v 133 (jo (bsW L))]):=λL M v w O A lA=>by
   refine⟨by simp,λo ho=> ?_⟩;rcases List.mem_append.1 ho with h1|h1
   ·exact .inl (List.mem_append_left _ h1)
   ·simp only[List.mem_cons,List.not_mem_nil,or_false]at h1;rcases h1 with rfl|rfl|rfl|rfl|rfl|rfl|rfl|rfl|rfl|rfl|rfl|rfl|rfl|rfl|rfl|rfl
    ·left;simp
    ·left;simp
    ·left;simp
    ·right;refine⟨λc hc=> ?_,λc hc=> ?_⟩<;>
     ·rw[List.mem_singleton]at hc;subst hc;simp[qS]
      try omega
    ·left;simp
    ·left;simp
    ·left;simp
    ·left;simp
    ·left;simp
    ·right;exact⟨lA _,lA _⟩
    ·left;simp
    ·left;simp
    ·left;simp
    ·left;simp
    ·left;simp
    ·right;exact⟨lP _ _ _,lP _ _ _⟩
  refine qY hit (λa ha=> ?_)
   (S:=λi hh=> ∃A,qH [A] 0=true∧(∀n,lowO n A)∧hh=h++ [.mem 1 26 [.str x.sec,strs x.sig,qp x.tok,qw x.col],.emp 1,.emp 2,.mem 1 45 [.osl (h.length+15) (vb+i) 7 0 (L0++rwM (ps.take i) (-1) (-1)).length],.mem 1 135 [.fn (.func 69) [] [.op (h.length+3) 1 0]],O5,.emp 0,P7,P8,A,O10,O11,O12,.mem 1 3 (qU (qam x l d d.length)),.mem 2 39 MC,zw (vb+i) 133 (jo (bsW (L0++rwM (ps.take i) (-1) (-1))))]) (E:=λ_ _=>False) ?_ ?_ ?_ ?_ ?_ ?_ ?_
  ·obtain⟨c,_,rfl⟩:=List.mem_map.1 ha;rfl
  ·rintro i hh ⟨A,_,lA,rfl⟩;exact hLow _ _ _ _ _ _ lA
  ·intro s hh hf;exact hf.elim
  ·exact⟨O9,s9,l9,by simp[rwM]⟩
  ·simp[qS,qS.lowVs]
   repeat' apply aiA
   all_goals first|rfl|omega|exact lRV _
  ·rintro i hh tl LI TS hi ⟨A,sA,lA,rfl⟩ hlen K1 K2 hK1 hN1 hR1 hX1;have hi':i<ps.length:=by rw[List.length_map]at hi;exact hi
   rw[List.getElem_map];have sA': ∀m,qH (A::m) 0=true:=λ_=>sA
   have hS:L0++rwM (ps.take (i+1)) (-1) (-1)=(L0++rwM (ps.take i) (-1) (-1))++ [⟨ps.getD i default,-1,-1⟩]:=by
    unfold rwM;rw[List.take_add_one,zH hi',List.map_append,gdqA,zH hi',List.append_assoc];rfl
   have eG:ps[i]=ps.getD i default:=by rw[gdqA,zH hi'];rfl
   rw[eG];have hpm:ps.getD i default∈ps:=jk hi';obtain⟨p,hp'⟩:=wc (ps.getD i default)
   rw[<-hp']at hS hpm ⊢;obtain⟨M,hM⟩:=wc (L0++rwM (ps.take i) (-1) (-1))
   have hMF: ∀r∈M,PcF r.p:=λr hr=>by
    rw[hM]at hr;rcases List.mem_append.1 hr with hr|hr
    ·exact hLF r hr
    ·exact hpF _ (List.mem_of_mem_take (jF.1 hr).1)
   have hMn:M.length<=1000000000:=by
    rw[hM,lap,jy,List.length_take];rw[lap,jy]at hLn;omega
   rw[<-hM]at hS ⊢;simp only[jV,List.append_assoc,lca,lna];simp (disch:=omega) only[sA',pcC,tkC,go_sem];refine hK1 _ _ (h++ [.mem 1 26 [.str x.sec,strs x.sig,qp x.tok,qw x.col],.emp 1,.emp 2,.mem 1 45 [.osl (h.length+15) (vb+i) 7 0 M.length],.mem 1 135 [.fn (.func 69) [] [.op (h.length+3) 1 0]],O5,.emp 0,P7,P8,(.mem (qo (some A)+1) 131 (pcC p)),O10,O11,O12,.mem 1 3 (qU (qam x l d d.length)),.mem 2 39 MC,zw (vb+i) 133 (jo (bsW M))]) ?_ ?_ ?_
   ·simp[pcC,tkC]
   ·simp
   ·simp only[List.append_assoc,lca,lna];simp (disch:=omega) only[pcC,tkC,go_sem]
    repeat' first|with_reducible apply aiA|exact clz|fail
    refine kf (qv9 (a:=h.length+3) (b:=h.length+15) (c:=h.length) (va:=1) (vb:=vb+i) (Z:= .mem 1 26 [.str x.sec,strs x.sig,qp x.tok,qw x.col]) ⟨by simp,by simp,by simp,om,om,om⟩ M p (-1) (-1) (by simp only[go_sem]) (by simp only[go_sem]) (by simp only[go_sem]) (by rw[<-hX0];exact lX0) (hpF p hpm) hMn hMF) ?_;simp (disch:=omega) only[go_sem];refine hN1 _ _ (h++ [.mem 1 26 [.str x.sec,strs x.sig,qp x.tok,qw x.col],.emp 1,.emp 2,.mem 1 45 [.osl (h.length+15) (vb+(i+1)) 7 0 (M++ [(⟨p,-1,-1⟩:Rw)]).length],.mem 1 135 [.fn (.func 69) [] [.op (h.length+3) 1 0]],O5,.emp 0,P7,P8,(.mem (qo (some A)+1) 131 (pcC p)),O10,O11,O12,.mem 1 3 (qU (qam x l d d.length)),.mem 2 39 MC,zw (vb+(i+1)) 133 (jo (bsW (M++ [(⟨p,-1,-1⟩:Rw)])))]) ?_ ?_ ⟨_,rfl,?_,by rw[hS]⟩
    ·simp[pcC,tkC,Nat.add_assoc]
    ·simp
    ·intro n c hc;simp[pcC,tkC]at hc;rcases hc with rfl|rfl|rfl|rfl|rfl|rfl|rfl<;>rfl
  ·rintro hh ⟨A,sA,lA,rfl⟩;rw[List.length_map,List.take_length];obtain⟨L1,hL1⟩:=wc (L0++rwM ps (-1) (-1))
   rw[<-hL1]
   by_cases hkl:k<l.length
   case neg=>
    have hke:k=l.length:=by omega
    obtain⟨b1,b2⟩:=hB hke;have q4:((k:Int)=l.length)=True:=wh;rw[hP7,hP8];simp (disch:=omega) only[q4,zu,zv,go_sem]
    repeat' first|with_reducible apply aiA|exact clz|fail
    rw[<-hP7,<-hP8];have e1:rwK x l d S (k+1)=L1:=by
     unfold rwK;rw[ine om,hL1,hL0,hps,b1,hke];rfl
    have e2:nxT x l (k+1)=t':=by unfold nxT;rw[ine om,b2]
    refine hK _ _ ⟨k+1,vb+ps.length,P7,P8,A,O10,O11,O12⟩ ⟨by simp only;omega,λO hO=> ?_⟩ (by simp only;omega) ?_
    ·simp only[List.mem_cons,List.not_mem_nil,or_false]at hO;rcases hO with rfl|rfl|rfl|rfl|rfl|rfl
     ·exact hP7l
     ·exact hP8l
     ·exact⟨sA,lA⟩
     ·exact⟨s10,l10⟩
     ·exact⟨s11,l11⟩
     ·exact⟨s12,l12⟩
    ·simp only[e1,e2];refine Wk.temps ?_
     (simp only[go_sem,qh,qf,qb,qg];try exact wa)
   obtain⟨b1,b2,b3⟩:=hA hkl;have q4:((k:Int)=l.length)=False:=wi;have q5:((k:Int)<l.length)=True:=wh;have q6:(k<l.length)=True:=eqt hkl;have eLs:(qU (qam x l d d.length))[k]? =some (.int .i64 (qbs x l d k d.length)):=by
    unfold qU
    have:=quj (x:=x) (d:=d) (n:=d.length) hkl
    rw[List.getElem?_map,zH (by rw[hll];exact hkl)];rw[gdqA,zH (by rw[hll];exact hkl)]at this;rw[<-this];rfl
   obtain⟨D,hD⟩:=wc (qbs x l d k d.length)
   rw[<-hD]at eLs;rw[hP7,hP8]
   by_cases g6:D<0
   ·have q7:(D<0)=True:=eqt g6;have c4:=λh=>qAx x f t' S h
    unfold coC at c4;simp (disch:=omega) only[q2,q4,q5,q6,q7,hlc,hll,eLs,zu,zv,go_sem]
    repeat' first|(refine cA (c4 _) flk ?_;simp (disch:=omega) only[go_sem])|with_reducible apply aiA|exact clz|fail
    rw[<-hP7,<-hP8];obtain⟨A0,hA0⟩:=wc A
    rw[<-hA0];obtain⟨vc,hvc⟩:=wc (vb+ps.length)
    rw[<-hvc];obtain⟨_,_,a3,a4,_⟩:=qaE hus hkl;have hit2:=itS x S f t' hz ho hSl om om;have hpF2:=Uy ho hSl (f:=f) (d:=t'-f) om;obtain⟨qs,hqs⟩:=wc (spk x S f (t'-f))
    have hxl2:(spX x S f (t'-f))=qs.map λp=> [.agg (pcC p)]:=by unfold spX;rw[hqs]
    rw[hxl2]at hit2;rw[<-hqs]at hpF2;unfold coC at hit2;have eR1:rwK x l d S (k+1)=L1++rwM qs (k:Int) (-1):=by
     unfold rwK;rw[ipo om];show rwL x l d S k++(rwC x S (jj l k) (frN l k)++rwU x l d S k)=_;unfold rwU;rw[ipo (by rw[<-hD];exact g6),hL1,hL0,hps,hqs,b1,b2,List.append_assoc];rfl
    have hLF2: ∀r∈L1,PcF r.p:=λr hr=>by
     rw[hL1]at hr;rcases List.mem_append.1 hr with hr|hr
     ·exact hLF r hr
     ·exact hpF _ (jF.1 hr).1
    have hLn2:(L1++rwM qs (k:Int) (-1)).length<=1000000000:=by
     rw[<-eR1];unfold rwK;rw[ipo om];exact Nat.le_trans (qmS (show k+1<=l.length by omega)) hN
    have hLow2: ∀(L M:List Rw) (v w:Nat) O A,(∀n,lowO n A)->LowI (h++ [.mem 1 26 [.str x.sec,strs x.sig,qp x.tok,qw x.col],.emp 1,.emp 2,.mem 1 45 [.osl (h.length+15) w 7 0 M.length],.mem 1 135 [.fn (.func 69) [] [.op (h.length+3) 1 0]],O5,.emp 0,P7,P8,A0,O,O11,O12,.mem 1 3 (qU (qam x l d d.length)),.mem 2 39 MC,zw w 133 (jo (bsW M))])
      (h++ [.mem 1 26 [.str x.sec,strs x.sig,qp x.tok,qw x.col],.emp 1,.emp 2,.mem 1 45 [.osl (h.length+15) v 7 0 L.length],.mem 1 135 [.fn (.func 69) [] [.op (h.length+3) 1 0]],O5,.emp 0,P7,P8,A0,A,O11,O12,.mem 1 3 (qU (qam x l d d.length)),.mem 2 39 MC,zw v 133 (jo (bsW L))]):=λL M v w O A lA=>by
     refine⟨by simp,λo ho=> ?_⟩;rcases List.mem_append.1 ho with h1|h1
     ·exact .inl (List.mem_append_left _ h1)
     ·simp only[List.mem_cons,List.not_mem_nil,or_false]at h1;rcases h1 with rfl|rfl|rfl|rfl|rfl|rfl|rfl|rfl|rfl|rfl|rfl|rfl|rfl|rfl|rfl|rfl
      ·left;simp
      ·left;simp
      ·left;simp
      ·right;refine⟨λc hc=> ?_,λc hc=> ?_⟩<;>
       ·rw[List.mem_singleton]at hc;subst hc;simp[qS]
        try omega
      ·left;simp
      ·left;simp
      ·left;simp
      ·left;simp
      ·left;simp
      ·left;simp
      ·right;exact⟨lA _,lA _⟩
      ·left;simp
      ·left;simp
      ·left;simp
      ·left;simp
      ·right;exact⟨lP _ _ _,lP _ _ _⟩
    refine qY hit2 (λa ha=> ?_)
     (S:=λi hh=> ∃A,qH [A] 0=true∧(∀n,lowO n A)∧hh=h++ [.mem 1 26 [.str x.sec,strs x.sig,qp x.tok,qw x.col],.emp 1,.emp 2,.mem 1 45 [.osl (h.length+15) (vc+i) 7 0 (L1++rwM (qs.take i) (k:Int) (-1)).length],.mem 1 135 [.fn (.func 69) [] [.op (h.length+3) 1 0]],O5,.emp 0,P7,P8,A0,A,O11,O12,.mem 1 3 (qU (qam x l d d.length)),.mem 2 39 MC,zw (vc+i) 133 (jo (bsW (L1++rwM (qs.take i) (k:Int) (-1))))]) (E:=λ_ _=>False) ?_ ?_ ?_ ?_ ?_ ?_ ?_
    ·obtain⟨c,_,rfl⟩:=List.mem_map.1 ha;rfl
    ·rintro i hh ⟨A,_,lA,rfl⟩;exact hLow2 _ _ _ _ _ _ lA
    ·intro s hh hf;exact hf.elim
    ·exact⟨O10,s10,l10,by simp[rwM]⟩
    ·simp[qS,qS.lowVs]
     repeat' apply aiA
     all_goals first|rfl|omega|exact lRV _
    ·rintro i hh tl LI TS hi ⟨A,sA,lA,rfl⟩ hlen K1 K2 hK1 hN1 hR1 hX1;have hi':i<qs.length:=by rw[List.length_map]at hi;exact hi
     rw[List.getElem_map];have sA': ∀m,qH (A::m) 0=true:=λ_=>sA
     have hS:L1++rwM (qs.take (i+1)) (k:Int) (-1)=(L1++rwM (qs.take i) (k:Int) (-1))++ [⟨qs.getD i default,(k:Int),-1⟩]:=by
      unfold rwM;rw[List.take_add_one,zH hi',List.map_append,gdqA,zH hi',List.append_assoc];rfl
     have eG:qs[i]=qs.getD i default:=by rw[gdqA,zH hi'];rfl
     rw[eG];have hpm:qs.getD i default∈qs:=jk hi';obtain⟨p,hp'⟩:=wc (qs.getD i default)
     rw[<-hp']at hS hpm ⊢;obtain⟨M,hM⟩:=wc (L1++rwM (qs.take i) (k:Int) (-1))
     have hMF: ∀r∈M,PcF r.p:=λr hr=>by
      rw[hM]at hr;rcases List.mem_append.1 hr with hr|hr
      ·exact hLF2 r hr
      ·exact hpF2 _ (List.mem_of_mem_take (jF.1 hr).1)
     have hMn:M.length<=1000000000:=by
      rw[hM,lap,jy,List.length_take];rw[lap,jy]at hLn2;omega
     rw[<-hM]at hS ⊢;simp only[jV,List.append_assoc,lca,lna];simp (disch:=omega) only[sA',pcC,tkC,go_sem];refine hK1 _ _ (h++ [.mem 1 26 [.str x.sec,strs x.sig,qp x.tok,qw x.col],.emp 1,.emp 2,.mem 1 45 [.osl (h.length+15) (vc+i) 7 0 M.length],.mem 1 135 [.fn (.func 69) [] [.op (h.length+3) 1 0]],O5,.emp 0,P7,P8,A0,(.mem (qo (some A)+1) 131 (pcC p)),O11,O12,.mem 1 3 (qU (qam x l d d.length)),.mem 2 39 MC,zw (vc+i) 133 (jo (bsW M))]) ?_ ?_ ?_
     ·simp[pcC,tkC]
     ·simp
     ·simp only[List.append_assoc,lca,lna];simp (disch:=omega) only[pcC,tkC,cP7,go_sem]
      repeat' first|with_reducible apply aiA|exact clz|fail
      refine kf (qv9 (a:=h.length+3) (b:=h.length+15) (c:=h.length) (va:=1) (vb:=vc+i) (Z:= .mem 1 26 [.str x.sec,strs x.sig,qp x.tok,qw x.col]) ⟨by simp,by simp,by simp,om,om,om⟩ M p (k:Int) (-1) (by simp only[go_sem]) (by simp only[go_sem]) (by simp only[go_sem]) (by rw[<-hX0];exact lX0) (hpF2 p hpm) hMn hMF) ?_;simp (disch:=omega) only[go_sem];refine hN1 _ _ (h++ [.mem 1 26 [.str x.sec,strs x.sig,qp x.tok,qw x.col],.emp 1,.emp 2,.mem 1 45 [.osl (h.length+15) (vc+(i+1)) 7 0 (M++ [(⟨p,(k:Int),-1⟩:Rw)]).length],.mem 1 135 [.fn (.func 69) [] [.op (h.length+3) 1 0]],O5,.emp 0,P7,P8,A0,(.mem (qo (some A)+1) 131 (pcC p)),O11,O12,.mem 1 3 (qU (qam x l d d.length)),.mem 2 39 MC,zw (vc+(i+1)) 133 (jo (bsW (M++ [(⟨p,(k:Int),-1⟩:Rw)])))]) ?_ ?_ ⟨_,rfl,?_,by rw[hS]⟩
      ·simp[pcC,tkC,Nat.add_assoc]
      ·simp
      ·intro n c hc;simp[pcC,tkC]at hc;rcases hc with rfl|rfl|rfl|rfl|rfl|rfl|rfl<;>rfl
    ·rintro hh ⟨B,sB,lB,rfl⟩;rw[List.length_map,List.take_length];simp (disch:=omega) only[go_sem];have e2:nxT x l (k+1)=t':=by
      unfold nxT;rw[ipo om,b2];unfold jj;rw[ine om,Nat.add_sub_cancel]
     refine hK _ _ ⟨k+1,vc+qs.length,P7,P8,A0,B,O11,O12⟩ ⟨by simp only;omega,λO hO=> ?_⟩ (by simp only;omega) ?_
     ·simp only[List.mem_cons,List.not_mem_nil,or_false]at hO;rcases hO with rfl|rfl|rfl|rfl|rfl|rfl
      ·exact hP7l
      ·exact hP8l
      ·rw[hA0];exact⟨sA,lA⟩
      ·exact⟨sB,lB⟩
      ·exact⟨s11,l11⟩
      ·exact⟨s12,l12⟩
     ·simp only[eR1,e2];refine Wk.temps ?_
      (simp only[go_sem,qh,qf,qb,qg];try exact wa)
    ·intro e hh hf;exact hf.elim
   ·have q7:(D<0)=False:=eqf g6;obtain⟨j,hj⟩: ∃j:Nat,D=j:=⟨D.toNat,om⟩
    have hjd:j<d.length:=by
     have:=(qdw x l d k d.length).2
     omega
    rw[hj]at eLs hD q7;have q8:(0<=(j:Int))=True:=wh;have q9:((j:Int)<d.length)=True:=wh;have s11': ∀m,qH (O11::m) 0=true:=λ_=>s11
    have e0:=hpl j hjd;have eU:eE x l (d.getD j default)=k:=qlC (n:=d.length) hD.symm;obtain⟨o,ho'⟩:=wc (d.getD j default)
    have eo:=ho'.symm;rw[eo]at e0 eU;have hot:o.txt.length<=1000:=ht o (by rw[ho'];exact jk hjd);obtain⟨p1,p2,p3,p4,p5,p6⟩:=qaU e0;have c5:=λh=>qEG h
    have zp: ∀g l,valL g .len [qea l]= .int .i64 l.length:=λ_ _=>rfl
    have zq: ∀g l,okL g .len [qea l]=True:=λ_ _=>eqt trivial
    have k7:(0<=o.kind)=True:=wh;have k8:(o.kind<4)=True:=wh;obtain⟨_,_,a3,a4,_⟩:=qaE hus hkl;obtain⟨fid,qs,eIx,c6,eqs,hpF2⟩: ∃(fid:Nat) (qs:List Pc),[AV.nilfn,AV.fn (.func 147) [] [],AV.fn (.func 149) [] [],AV.fn (.func 151) [] []][Int.toNat o.kind]?.getD AV.undef= .fn (.func fid) [] []∧(∀l',ACalls Tryz.prog fid [.agg [.str x.sec,strs x.sig,qp x.tok,qw x.col],.agg [.int .i64 (f:Int),.int .i64 (t':Int),RV],.agg [.int .i64 o.kind,.str o.sig,.int .i64 o.tok,.str o.txt]] (h++l') (qea qs) (h++l'))∧qs=qqn x l k o∧ ∀p∈qs,PcF p:=by
     obtain⟨a1,a2,_⟩:=qaE hus hkl;rcases (show o.kind=1∨o.kind=2∨o.kind=3 by omega)with g7|g7|g7
     ·obtain⟨S1,hS1⟩: ∃S1:Nat,zN x o.sig=S1:=⟨(zN x o.sig).toNat,by have:=(qg8 p4).1;omega⟩
      have hS1l:S1<x.sig.length:=by have:=(qg8 p4).2.1;omega
      refine⟨147,spk x S1 f (t'-f),by rw[g7];rfl,λl'=> ?_,?_,Uy ho hS1l om⟩
      ·have c6:=qED x (l.getD k default) o S1 f t' (h++l') hz ho hS1 hS1l (by rw[a1,b1]) (by rw[a2,b2]) om om;unfold coC unC dcC at c6;rw[a1,a2,<-b1,<-b2,<-b3]at c6;exact c6
      ·unfold qqn;rw[ipo g7,hS1,itn,b1,b2]
     ·obtain⟨r1,r2,r3,r4⟩:=qkx p6 g7;refine⟨149,cjP (qed o.txt) (f:Int),by rw[g7];rfl,λl'=> ?_,?_,qsb r2⟩
      ·have c6:=qEE x (l.getD k default) o (h++l') hot r4 r1 r2 hg.app;unfold coC unC dcC at c6;rw[a1,a2,<-b1,<-b2,<-b3]at c6;exact c6
      ·unfold qqn cjP;rw[ine (by rw[g7];decide),ipo g7,a1,b1]
     ·refine⟨151,[],by rw[g7];rfl,λl'=> ?_,?_,λp hp=>by cases hp⟩
      ·have c6:=qEF x (l.getD k default) o (h++l');unfold coC unC dcC at c6;rw[a1,a2,<-b1,<-b2,<-b3]at c6;exact c6
      ·unfold qqn;rw[ine (by rw[g7];decide),ine (by rw[g7];decide)]
    simp (disch:=omega) only[q2,q4,q5,q6,q7,q8,q9,hlc,hll,eLs,zu,zv,qaH,dcC,eo,s11',go_sem]
    repeat' first|with_reducible apply aiA|exact clz|fail
    refine kg ?Ta ?Ha ?h1 ?h2
    case h1=>
     simp (disch:=omega) only[go_sem]
     repeat' first|(refine cU (λ_=>c5 _) flk ?_;simp (disch:=omega) only[k7,go_sem])|with_reducible apply aiA
     all_goals first
      |omega
      |rfl
      |skip
     rw[eIx];refine qkd (c6 _) (by exact flk) ?_;simp (disch:=omega) only[zp,zq,go_sem]
     repeat' first|with_reducible apply aiA
     all_goals first
      |omega
      |rfl
      |skip
    case h2=>
    rw[<-hP7,<-hP8];obtain⟨P11,hP11⟩:=wc (AObj.mem (qo (some O11)+1) 65 [.int .i64 o.kind,.str o.sig,.int .i64 o.tok,.str o.txt])
    rw[<-hP11];have eR1:rwK x l d S (k+1)=L1++rwM qs (k:Int) (j:Int):=by
     unfold rwK;rw[ipo om];show rwL x l d S k++(rwC x S (jj l k) (frN l k)++rwU x l d S k)=_;unfold rwU;rw[<-hD,ine om,itn,eo,hL1,hL0,hps,eqs,b1,List.append_assoc];rfl
    have hLF2: ∀r∈L1,PcF r.p:=λr hr=>by
     rw[hL1]at hr;rcases List.mem_append.1 hr with hr|hr
     ·exact hLF r hr
     ·exact hpF _ (jF.1 hr).1
    have hLn2:(L1++rwM qs (k:Int) (j:Int)).length<=1000000000:=by
     rw[<-eR1];unfold rwK;rw[ipo om];exact Nat.le_trans (qmS (show k+1<=l.length by omega)) hN
    simp (disch:=omega) only[go_sem];have hqn:qs.length<=1000000000:=by rw[lap,jy]at hLn2;omega
    refine qt (T:=λi:Nat×AObj=>zg 154 [(1,jI l),(2,qaH d),(3,.int .i64 (S:Int)),(4,.op h.length 1 0),(13,.osl (h.length+13) 1 1 0 l.length),(16,.op (h.length+3) 1 0),(17,.op (h.length+4) 1 0),(18,.int .i64 (t':Int)),(19,.op (h.length+7) (qo (some O7)+1) 0),(78,.osl (h.length+14) 2 3 0 (l.length+1)),(79,.int .i64 ((l.length+1:Nat):Int)),(80,.int .i64 (k:Int)),(111,qea qs),(112,.int .i64 qs.length),(113,.int .i64 i.1)])
     (H:=λi=>h++ [.mem 1 26 [.str x.sec,strs x.sig,qp x.tok,qw x.col],.emp 1,.emp 2,.mem 1 45 [.osl (h.length+15) (vb+ps.length+i.1) 7 0 (L1++rwM (qs.take i.1) (k:Int) (j:Int)).length],.mem 1 135 [.fn (.func 69) [] [.op (h.length+3) 1 0]],O5,.emp 0,P7,P8,A,O10,P11,i.2,.mem 1 3 (qU (qam x l d d.length)),.mem 2 39 MC,zw (vb+ps.length+i.1) 133 (jo (bsW (L1++rwM (qs.take i.1) (k:Int) (j:Int))))])
     (inv:=λi=>i.1<=qs.length∧qH [i.2] 0=true∧ ∀n,lowO n i.2) (m:=λi=>qs.length-i.1) (0,O12) ⟨nzl _,s12,l12⟩ ?_ ?_
    ·simp only[List.take_zero,rwM,List.map_nil,lan,Nat.add_zero];refine Wk.temps ?_
     (simp only[qaH,dcC,go_sem,qh,qf,qb,qg];try exact wa)
    rintro⟨i,B⟩ ⟨j1,j2,j3⟩ K3 hK3;simp only at j1 j2 j3 hK3;have j2': ∀m,qH (B::m) 0=true:=λ_=>j2
    by_cases hi:i<qs.length
    ·have w1:((i:Int)<qs.length)=True:=wh;have w2:(0<=(i:Int))=True:=wh;have hS:L1++rwM (qs.take (i+1)) (k:Int) (j:Int)=(L1++rwM (qs.take i) (k:Int) (j:Int))++ [⟨qs.getD i default,(k:Int),(j:Int)⟩]:=by
      unfold rwM;rw[List.take_add_one,zH hi,List.map_append,gdqA,zH hi,List.append_assoc];rfl
     have hpm:qs.getD i default∈qs:=jk hi;obtain⟨p,hp'⟩:=wc (qs.getD i default)
     have ep:=hp'.symm;rw[<-hp']at hS hpm;obtain⟨M,hM⟩:=wc (L1++rwM (qs.take i) (k:Int) (j:Int))
     have hMF: ∀r∈M,PcF r.p:=λr hr=>by
      rw[hM]at hr;rcases List.mem_append.1 hr with hr|hr
      ·exact hLF2 r hr
      ·exact hpF2 _ (List.mem_of_mem_take (jF.1 hr).1)
     have hMn:M.length<=1000000000:=by
      rw[hM,lap,jy,List.length_take];rw[lap,jy]at hLn2;omega
     rw[<-hM]at hS ⊢;simp (disch:=omega) only[qea,pcC,tkC,w1,w2,ep,j2',cP7,q2,q5,q6,eLs,hlc,hll,go_sem]
     repeat' first|with_reducible apply aiA|exact clz|fail
     refine kf (qv9 (a:=h.length+3) (b:=h.length+15) (c:=h.length) (va:=1) (vb:=vb+ps.length+i) (Z:= .mem 1 26 [.str x.sec,strs x.sig,qp x.tok,qw x.col]) ⟨by simp,by simp,by simp,om,om,om⟩ M p (k:Int) (j:Int) (by simp only[go_sem]) (by simp only[go_sem]) (by simp only[go_sem]) (by rw[<-hX0];exact lX0) (hpF2 p hpm) hMn hMF) ?_;simp (disch:=omega) only[go_sem];refine hK3 _ _ (i+1,.mem (qo (some B)+1) 131 (pcC p)) ⟨hi,rfl,λn c hc=> ?_⟩ (by simp only;omega) ?_
     ·simp[pcC,tkC]at hc;rcases hc with rfl|rfl|rfl|rfl|rfl|rfl|rfl<;>rfl
     ·simp only[hS,pcC,tkC,lap,lco,lnl,lca,lna,Nat.zero_add];refine Wk.temps ?_
      (simp only[qaH,dcC,go_sem,qh,qf,qb,qg];try exact wa)
    ·have w1:((i:Int)<qs.length)=False:=wi;obtain rfl:i=qs.length:=by omega
     rw[List.take_length];simp (disch:=omega) only[w1,go_sem];have e2:nxT x l (k+1)=t':=by
      unfold nxT;rw[ipo om,b2];unfold jj;rw[ine om,Nat.add_sub_cancel]
     refine hK _ _ ⟨k+1,vb+ps.length+qs.length,P7,P8,A,O10,P11,B⟩ ⟨by simp only;omega,λO hO=> ?_⟩ (by simp only;omega) ?_
     ·simp only[List.mem_cons,List.not_mem_nil,or_false]at hO;rcases hO with rfl|rfl|rfl|rfl|rfl|rfl
      ·exact hP7l
      ·exact hP8l
      ·exact⟨sA,lA⟩
      ·exact⟨s10,l10⟩
      ·rw[hP11];refine⟨rfl,λn c hc=> ?_⟩;simp at hc;rcases hc with rfl|rfl|rfl|rfl<;>rfl
      ·exact⟨j2,j3⟩
     ·simp only[eR1,e2];refine Wk.temps ?_
      (simp only[go_sem,qh,qf,qb,qg];try exact wa)
  ·intro e hh hf;exact hf.elim
end RC
end
section
open Go Go.Proofs AF
def qt4:List Nat:= []
@[go_sem]def vK:DT:= DT.one ⟨some 23,none,.app 4 3 39 40,[.t 14,.t 22]⟩ (DT.one ⟨none,none,.store 1,[.t 4,.t 23]⟩ DT.nil)
def qBM:C:=
 (vS [O1 1 (.box 0 26) 0,ON 2 (.nilo 1 3 39) [],vM 3 0] ((vS [O1 7 (.load (some 4)) 1,O1 8 (.call 47 true) 7,vN 9 .neq 8 0] (vT 9 (vV [ON 2 (.nilo 1 3 39) [],vM 3 1]))).seq (vS
 [⟨some 4,none,.alloc 2 31 [.nl],[]⟩] (((C.wk.seq (vW [O1 10 (.load (some 4)) 1,O1 11 (.call 62 true) 10])).seq (C.block 0 (C.range (.t 11) [12,13] (vS [MV 5 12] (vW [MV 6 13]))
 (C.block 1 (C.draw (DT.one ⟨some 15,none,.mv,[.t 5]⟩ (DT.one ⟨some 16,none,.mv,[.t 6]⟩ (DT.one ⟨some 17,none,.load (some 4),[.t 1]⟩ (DT.one ⟨some 18,none,.mv,[.t 5]⟩ (DT.one
 ⟨some 19,none,.mv,[.t 6]⟩ (DT.uni ⟨some 20,none,.call 63 true,[.t 17,.t 18,.t 19]⟩ (DT.one ⟨some 21,none,.build [i6 0,i6 0,.nl] [(0,1),(1,1),(2,1)],[.t 15,.t 16,.t 20]⟩
 ((DT.one ⟨some 14,none,.load none,[.t 4]⟩ (DT.one ⟨some 22,none,.bslc 3 3 1 39 [i6 0,i6 0,.nl] [(0,3)],[.t 21]⟩ vK)).two (DT.one ⟨some 22,none,.bslc 3 3 1 39 [i6 0,i6 0,.nl]
 [(0,3)],[.t 21]⟩ (DT.one ⟨some 14,none,.load none,[.t 4]⟩ vK))))))))))))))).seq (vV [LD 24 4,MV 2 24,vM 3 0])))))
theorem qx1:qK Tryz.prog 12 25 5 [RV.tmp 2,RV.tmp 3] qBM:=fi Tryz.f12 [1,2,4,22,23] qt4 [4]
end
section
open Go Go.Proofs AF HY LN
namespace RC
def utE(x:Co):Int:=if coE x=0 then 0 else 1
def utR(x:Co):List Un:=if coE x=0 then qbw x else []
theorem qqP{v n:Nat}{L:List Un}{ty:TypeId}{fz:Nat->Bool}{h:we}{d:Nat}(hn:n=L.length):VLe (qg0 (some (zw v ty (UO L))) v 3 0 n (rei fz h (d+1))) (jI L):=by
 subst hn;unfold zw;split
 ·rename_i e
  have:L= []:=by
   cases L with
   |nil=>rfl
   |cons a r=>exact absurd e (by simp[UO,unC])
  subst this;rw[slOf_emp,ipo rfl];exact zB
 ·rw[slOf_mem,ipo ⟨rfl,by rw[qbO];omega⟩];refine VLe.sl_eq rfl (λi hi=> ?_);simp only[Nat.zero_add];rw[qhg hi];rfl
theorem qC7(x:Co)(h:we)(hz:qfk x)(hp:ku SG h):ACalls Tryz.prog 12 [.agg (coC x)] h (.tup [jI (utR x),.int .i64 (utE x)]) h:=by
 have c1:=λl'=>coP x (h++l') hz (hp.app l')
 unfold utE utR
 by_cases g:coE x=0
 case neg=>
  have k1:(coE x=0)=False:=eqf g;rw[ine g,ine g];obtain⟨e,he⟩:=wc (coE x)
  rw[<-he]at c1 k1;unfold coC at c1;refine acO qx1 ?_;simp (disch:=omega) only[qBM,coC,go_sem]
  repeat' first|(refine cA (c1 _) flk ?_;simp (disch:=omega) only[k1,go_sem])|(apply qa;exact rvk;simp only[go_sem])
  exact VLe.tup ⟨zB,qi,trivial⟩
 rw[ipo g,ipo g];simp only[g]at c1;have ho:=qad g;have hn:=hz.cl;have c2:=λh=>qDV x h
 have lx: ∀n v ty,lowO n (.mem v ty (coC x)):=λn v ty=>quh x n v ty
 unfold coC at c1 c2;refine acO qx1 ?_;simp (disch:=omega) only[qBM,coC,go_sem]
 repeat' first|(refine cA (c1 _) flk ?_;simp (disch:=omega) only[go_sem])
 refine⟨_,_,Wk.ownNil (j:=h.length+2) (i:=0) (k:=h.length+4) (v:=1) (ty:=31) (cs:= [.nl]) (ve:=0) (sz:=3) ?m1 rfl ?m2,?_⟩
 case m1=>simp only[go_sem]
 case m2=>simp only[go_sem]
 simp (disch:=omega) only[List.set_cons_zero,go_sem]
 repeat' first|(refine cA (c2 _) flk ?_;simp (disch:=omega) only[go_sem])
 have hrl:=qfJ x;have hrg:=λi hi=>qmJ (x:=x) (i:=i) hi
 have hul:(qbw x).length=(qc4 (cmB x) x.col.length).length:=qbP x;have hue:=λi (hi:i<(qc4 (cmB x) x.col.length).length)=>qcj (x:=x) (k:=i) hi
 have hin:=λi (hi:i<(qc4 (cmB x) x.col.length).length)=>qmI (x:=x) (k:=i) hi
 have hle:(qbw x).length<=1000000000:=by
  have h1:=qdL (s:=0) (UG x) (d:= []) (by simp) (qbw x).length (nlr _);have h2:=qaV (UG x) (nlr (qbw x).length);omega
 unfold rnL at hue hin;obtain⟨rs,hrs⟩:=wc (qc4 (cmB x) x.col.length)
 simp only[<-hrs]at hrl hrg hul hue hin;obtain⟨L,hL⟩:=wc (qbw x)
 simp only[<-hL]at hul hue hle ⊢;obtain⟨X0,hX0⟩:=wc (AObj.mem 1 26 [.str x.sec,strs x.sig,qp x.tok,qw x.col])
 refine qY (xs:=rnX x) (itR x ho hn) (qmK x)
  (S:=λi hh=> ∃w O1,qH [O1] 0=true∧(∀n,lowO n O1)∧hh=h++ [.mem 1 26 (coC x),.emp 1,.mem 1 31 [.osl (h.length+4) w 3 0 i],O1,zw w 39 (UO (L.take i))])
  (E:=λ_ _=>False) ?e1 (λ_ _ h=>h.elim) ?e2 ?e3 ?e4 ?e5 (λ_ _ h=>h.elim)
 case e1=>
  rintro i hh ⟨w,O1,_,l1,rfl⟩;refine LowI.app rfl (λo ho=> ?_);simp only[List.mem_cons,List.not_mem_nil,or_false]at ho;rcases ho with rfl|rfl|rfl|rfl|rfl
  ·left;simp[coC]
  ·left;simp
  ·right;constructor<;>(intro c hc;simp only[List.mem_cons,List.not_mem_nil,or_false]at hc;rcases hc with rfl;simp[qS])
  ·right;exact⟨l1 _,l1 _⟩
  ·right;exact⟨jl (qd0 _ _),jl (qd0 _ _)⟩
 case e2=>exact⟨0,.emp 0,rfl,λ_=>trivial,rfl⟩
 case e3=>
  have lt: ∀n,qS n (qp x.tok)=true:=λ_=>rfl
  have lc: ∀n,qS n (qw x.col)=true:=λ_=>rfl
  simp[qS,qS.lowVs,lt,lc,qbI]
  try omega
 case e4=>
  rintro i hh tl LI TS hi ⟨w,O1,p1,l1,rfl⟩ hlen K4 K5 hK4 hN hR' hX;rw[hrg i hi];rw[hrl]at hi;have e5:=hue i hi;obtain⟨f1,f2,_⟩:=hin i hi;have e6:rs.getD i (0,0)=rs[i]:=by rw[gdqA,zH hi];rfl
  rw[e6];have p1': ∀m,qH (O1::m) 0=true:=λ_=>p1
  have hTk:L.take (i+1)=L.take i++ [L.getD i default]:=by
   rw[List.take_add_one,zH om,gdqA,zH om];rfl
  rw[e5]at hTk;have hTl:(L.take i).length=i:=by rw[List.length_take];omega
  have eVl:=qbO (L.take i);rw[hTl]at eVl;have eVk:List.take (i*3) (UO (L.take i))=UO (L.take i):=ltl om;obtain⟨⟨f,t⟩,hr⟩: ∃r,r=rs[i]:=⟨_,rfl⟩
  rw[<-hr]at hTk f1 f2 ⊢;have eVn:UO (L.take (i+1))=UO (L.take i)++ [.int .i64 (f:Int),.int .i64 (t:Int),ky (qeb x f t)]:=by rw[hTk,qre,qrf];rfl
  have c48:=λh=>qDU x f t h ho f2 hn
  unfold coC at c48;have zr: ∀X,(ky X).cells= [ky X]:=λ_=>rfl
  have zm:List.drop 3 (zf [AV.int .i64 0,.int .i64 0,.nl] 1)= []:=rfl;have hi9:((i:Int)+1)*24<=140737488355328:=by omega
  simp only[jV];simp (disch:=omega) only[List.append_assoc,coC,go_sem];refine hK4 _ _ (h++ [.mem 1 26 (coC x),.emp 1,.mem 1 31 [.osl (h.length+4) w 3 0 i],O1,zw w 39 (UO (L.take i))]) (by simp[coC]) (by simp) ?_;simp (disch:=omega) only[List.append_assoc,coC,go_sem];refine kg ?T ?H ?h1 ?h2
  case h1=>
   simp (disch:=omega) only[go_sem]
   repeat' first|(refine cU (λ_=>c48 _) flk ?_;simp (disch:=omega) only[p1',eVl,eVk,List.set_cons_zero,zr,zm,go_sem])|with_reducible apply aiA
   all_goals first
    |omega
    |rfl
    |(rw[bne_iff_ne];omega)
    |skip
  case h2=>
  simp (disch:=omega) only[go_sem];refine hN _ _ (h++ [.mem 1 26 (coC x),.emp 1,.mem 1 31 [.osl (h.length+4) (w+1) 3 0 (i+1)],.mem (qo (some O1)+1) 39 [.int .i64 (f:Int),.int .i64 (t:Int),ky (qeb x f t)],zw (w+1) 39 (UO (L.take (i+1)))]) (by rw[eVn];simp[coC]) (by simp)
   ⟨w+1,_,rfl,?lw,rfl⟩
  case lw=>
  intro n c hc;simp only[List.mem_cons,List.not_mem_nil,or_false]at hc;rcases hc with rfl|rfl|rfl<;>rfl
 case e5=>
  rintro hh ⟨w,O1,p1,l1,rfl⟩;rw[hrl,<-hul,List.take_length];simp (disch:=omega) only[go_sem]
  repeat' first|(apply qa;exact rvk;simp only[go_sem])|with_reducible apply aiA|exact clz|fail
  exact VLe.tup ⟨qqP rfl,qi,trivial⟩
end RC
end
section
namespace Go.Proofs
open Go.Shelf
end Go.Proofs
end
section
open Go Go.Proofs AF HY LN
namespace RC
end RC
end
section
open Go Go.Proofs AF
end
section
open Go Go.Proofs AF HY LN
namespace RC
theorem qBZ(h:we):ACalls Tryz.prog 71 [.nl] h .nl h:=by
 refine acO qtQ ?_;simp (disch:=omega) only[qBt,go_sem]
 repeat' first|exact v7|fail
theorem qES(a:Int)(h:we):ACalls Tryz.prog 68 [qP [a],.int .i64 0] h (qP []) h:=by
 have s1:=λh=>qg3 h [a]
 have c1:=λh=>qDS 0 h om
 have z1: ∀g,valL g .len [qP [a]]= .int .i64 1:=λ_=>rfl
 have z2: ∀g,okL g .len [qP [a]]=True:=λ_=>eqt trivial
 have e5:IntKind.u64.wrap 1=1:=by decide
 have e6:IntKind.u64.wrap 0=0:=by decide
 rw[show ((0:Nat):Int)=0 from rfl]at c1;refine acO qze ?_;simp (disch:=omega) only[qBP,z1,z2,e5,e6,go_sem]
 repeat' first|(refine cA (c1 _) flk ?_;simp (disch:=omega) only[s1,go_sem])|(with_reducible first|intro _|apply aiA)|exact clz|fail
 ·rfl
 refine qt (T:=λ_:Unit=>zg 48 [(7,.osl (h.length+1) 1 1 0 0),(8,.int .i64 0)]) (H:=λ_=>h++ [.emp 1,.mem 1 3 []])
  (inv:=λ_=>True) (m:=λ_=>0) () trivial (Wk.temps ?_) ?_
 ·(simp only[go_sem,qh,qf,qb,qg];try exact wa)
 rintro⟨⟩-K hK;have q1:((0:Int)<0)=False:=wi;simp (disch:=omega) only[go_sem]
 repeat' first|(apply qa;exact rvk;simp only[go_sem])|(with_reducible first|intro _|apply aiA)|exact clz|fail
 exact VLe.sl_eq rfl (λi hi=>absurd hi (nnz _))
theorem qAi{hh:we}{j v:Nat}(a:Int)(cs:wg)(hj:qq j hh=some (.mem v 3 (.int .i64 a::cs))):
  ACalls Tryz.prog 68 [.osl j v 1 0 1,.int .i64 0] hh (qP []) (qn j hh (.emp (v+1))):=by
 have hs:qH hh j=true:=by unfold qH;rw[hj]
 have e1:qeF [j] hh=qn j hh (.emp (v+1)):=by show qn j hh (.emp (qo (qq j hh)+1))=_;rw[hj];rfl
 refine ACalls.frzd [j] (by show (qH hh j&&true)=true;rw[hs];rfl) ?_;rw[e1];refine (qES a _).le ⟨?_,qi,trivial⟩ (qi);have hc:=qQ hj;have e: [j].contains j=true:=by simp
 simp only[go_sem,e,if_true,hc];rw[hj,slOf_mem,ipo ⟨rfl,by simp⟩];refine VLe.sl_eq rfl (λi hi=> ?_);obtain rfl:i=0:=by omega
 rfl
theorem qCb(x:Co)(d:List Dc)(s:Int)(h:we)(hz:qfk x)(hp:ku SG h)(hg:z6 h frmN frmC)(hd:d.length<=1000000)(ht: ∀o∈d,o.txt.length<=1000)(hN0:vaE x []=0->(rwA x [] d s.toNat).length<=1000000000):
  ACalls Tryz.prog 17 [.agg (coC x),.nl,qaH d,.int .i64 s] h (.tup [qee (esR x [] d s),.int .i64 (esE x [] d s)]) h:=by
 have hu:qoa []:=⟨by simp,λi=>by simp;exact nzl _,λi j=>by simp;exact nzl _,λi j=>by simp;exact nzl _⟩
 have c1:=λl'=>(qtb x [] (h++l') hz hu (hp.app l')).le (args:= [.agg (coC x),.nl]) ⟨qi,zB,trivial⟩ (qi)
 have zu: ∀g l,valL g .len [jI l]= .int .i64 l.length:=λ_ _=>rfl
 have zv: ∀g l,okL g .len [jI l]=True:=λ_ _=>eqt trivial
 have zu1: ∀g l,valL g .len [strs l]= .int .i64 l.length:=λ_ _=>rfl
 have zv1: ∀g l,okL g .len [strs l]=True:=λ_ _=>eqt trivial
 have hE:esE x [] d s=(if vaE x []≠0 then vaE x [] else if s<0∨(x.sig.length:Int)<=s then 2 else if qbt x [] d≠0 then qbt x [] d else if 1024<(rwA x [] d s.toNat).length then 4 else 0):=rfl;unfold esR
 by_cases g:vaE x []=0
 case neg=>
  have k1:(vaE x []=0)=False:=eqf g;rw[ipo g]at hE;rw[hE,ine g];unfold coC at c1;refine acO UV ?_;simp (disch:=omega) only[qfh,coC,go_sem]
  repeat' first|(refine cA (c1 _) flk ?_;simp (disch:=omega) only[k1,go_sem])|(apply qa;exact rvk;simp only[go_sem])
  exact VLe.tup ⟨zB,qi,trivial⟩
 rw[ine (by simpa using g)]at hE;have hN:=hN0 g;simp only[g]at c1;obtain⟨hca,hus,hcv⟩:=qfa g;have ho:=qad hca
 by_cases g2:s<0
 ·have k2:(s<0)=True:=eqt g2;rw[ipo (.inl g2)]at hE;rw[hE,ine (by decide)];unfold coC at c1;refine acO UV ?_;simp (disch:=omega) only[qfh,coC,go_sem]
  repeat' first|(refine cA (c1 _) flk ?_;simp (disch:=omega) only[k2,go_sem])|(apply qa;exact rvk;simp only[go_sem])
  exact VLe.tup ⟨zB,qi,trivial⟩
 have k2:(s<0)=False:=eqf g2
 by_cases g3:(x.sig.length:Int)<=s
 ·have k3:((x.sig.length:Int)<=s)=True:=eqt g3;rw[ipo (.inr g3)]at hE;rw[hE,ine (by decide)];unfold coC at c1;refine acO UV ?_;simp (disch:=omega) only[qfh,coC,go_sem]
  repeat' first|(refine cA (c1 _) flk ?_;simp (disch:=omega) only[k2,k3,zu1,zv1,go_sem])|(apply qa;exact rvk;simp only[go_sem])
  exact VLe.tup ⟨zB,qi,trivial⟩
 have k3:((x.sig.length:Int)<=s)=False:=eqf g3;rw[ine (λe=>e.elim g2 g3)]at hE;have c2:=λl'=>(qCU x [] d (h++l') hz hu (hp.app l') hg.app hca hd ht).le (args:= [.agg (coC x),.nl,qaH d]) ⟨qi,zB,qi,trivial⟩ (qi)
 unfold qz0 at c2
 by_cases g4:qbt x [] d=0
 case neg=>
  have k4:(qbt x [] d=0)=False:=eqf g4;simp only[ine g4]at c2;rw[ipo g4]at hE;rw[hE,ine g4];unfold coC at c1 c2;refine acO UV ?_;simp (disch:=omega) only[qfh,coC,go_sem]
  repeat' first|((first|refine cA (c1 _) ?_ ?_|refine cA (c2 _) ?_ ?_);exact flk;simp (disch:=omega) only[k2,k3,k4,zu1,zv1,go_sem])|(apply qa;exact rvk;simp only[go_sem])|with_reducible apply aiA|exact clz|fail
  exact VLe.tup ⟨zB,qi,trivial⟩
 rw[ine (by simpa using g4)]at hE;simp only[g4,if_true]at c2;rw[hE];unfold coC at c1 c2;refine acO UV ?_;simp (disch:=omega) only[qfh,coC,go_sem]
 repeat' first|((first|refine cA (c1 _) ?_ ?_|refine cA (c2 _) ?_ ?_);exact flk;simp (disch:=omega) only[k2,k3,zu1,zv1,go_sem])|with_reducible apply aiA|exact clz|fail
 have hd0:d= []:=by
  cases d with
  |nil=>rfl
  |cons o r=>
   exfalso
   have:=g4
   unfold qbt at this;split at this
   ·cases this
   ·have h0:=jR.1 this 0 (by simp);have h1:=(qaU h0).2.2.2.2.1;have h2:eE x [] ((o::r).getD 0 default)= -1:=rfl;omega
 subst hd0;have zi: ∀g l,valL g .len [qP l]= .int .i64 l.length:=λ_ _=>rfl
 have zj: ∀g l,okL g .len [qP l]=True:=λ_ _=>eqt trivial
 have ePL:(plG x [] [] ([]:List Dc).length).length=0:=rfl;refine qy (qAi (j:=h.length+2) (-1) (List.drop 1 (zf [.int .i64 0] 1)) ?j1) (by exact flk) ?_
 case j1=>simp only[go_sem]
 simp (disch:=omega) only[zi,zj,go_sem];refine qt (T:=λ_:Unit=>zg 154 [(1,.nl),(3,.int .i64 s),(4,.op h.length 1 0),(13,qP []),(56,.int .i64 0),(57,.int .i64 0)])
  (H:=λ_=>h++ [.mem 1 26 [.str x.sec,strs x.sig,qp x.tok,qw x.col],.emp 1,.emp 2,.emp 0,.emp 0,.emp 0,.emp 0,.emp 0,.emp 0,.emp 0,.emp 0,.emp 0,.emp 0,.emp 0,.emp 0,.emp 0])
  (inv:=λ_=>True) (m:=λ_=>0) () trivial (Wk.temps ?_) ?_
 ·(simp only[go_sem,qh,qf,qb,qg];try exact wa)
 rintro⟨⟩-K hK;have q1:((0:Int)<0)=False:=wi;simp (disch:=omega) only[q1,go_sem];refine⟨_,_,Wk.ownNil (j:=h.length+3) (i:=0) (k:=h.length+15) (v:=1) (ty:=45) (cs:= [.nl]) (ve:=0) (sz:=7) ?m1 rfl ?m2,?_⟩
 case m1=>simp only[go_sem]
 case m2=>simp only[go_sem]
 simp (disch:=omega) only[List.set_cons_zero,go_sem];have bne5:(h.length+6 !=h.length+5)=true:=by simp
 have zc: ∀g l,valL g .len [qw l]= .int .i64 l.length:=λ_ _=>rfl
 have zd: ∀g l,okL g .len [qw l]=True:=λ_ _=>eqt trivial
 refine kg ?T ?H ?h1 ?h2
 case h1=>
  simp (disch:=omega) only[zc,zd,go_sem]
  repeat' first|(with_reducible apply aiA)|(refine qy (qBZ _) (by exact flk) ?_;simp (disch:=omega) only[zc,zd,go_sem])
  all_goals first
   |omega
   |rfl
   |exact bne5
 case h2=>
 simp (disch:=omega) only[go_sem];obtain⟨S,hS⟩: ∃S:Nat,s=S:=⟨s.toNat,om⟩
 subst hS;rw[itn]at hN ⊢;have hSl:S<x.sig.length:=by omega
 obtain⟨MC,hMC⟩:=wc ( [AV.int .i64 x.col.length,.int .i64 x.col.length,.nl])
 rw[<-hMC];obtain⟨O5,hO5⟩:=wc (AObj.mem 1 39 (AV.int .i64 x.col.length:: .int .i64 x.col.length:: .nl::List.drop 3 (zf [.int .i64 0,.int .i64 0,.nl] 1)))
 rw[<-hO5];obtain⟨X0,hX0⟩:=wc (AObj.mem 1 26 [.str x.sec,strs x.sig,qp x.tok,qw x.col])
 have lX0: ∀n,lowO n X0:=by
  intro n;rw[hX0];intro c hc;simp at hc;rcases hc with rfl|rfl|rfl|rfl<;>rfl
 refine qt (T:=λi:EsS=>zg 154 [(1,.nl),(3,.int .i64 (S:Int)),(4,.op h.length 1 0),(13,qP []),(16,.op (h.length+3) 1 0),(17,.op (h.length+4) 1 0),(18,.int .i64 (nxT x [] i.k:Int)),(78,.osl (h.length+6) 1 3 0 1),(79,.int .i64 1),(80,.int .i64 i.k)])
  (H:=λi=>h++ [.mem 1 26 [.str x.sec,strs x.sig,qp x.tok,qw x.col],.emp 1,.emp 2,.mem 1 45 [.osl (h.length+15) i.vb 7 0 (rwK x [] [] S i.k).length],.mem 1 135 [.fn (.func 69) [] [.op (h.length+3) 1 0]],O5,.mem 1 39 MC,i.O7,i.O8,i.O9,i.O10,i.O11,i.O12,.emp 0,.emp 0,zw i.vb 133 (jo (bsW (rwK x [] [] S i.k)))])
  (inv:=λi=>i.k<=1∧ ∀O∈ [i.O7,i.O8,i.O9,i.O10,i.O11,i.O12],qH [O] 0=true∧ ∀n,lowO n O) (m:=λi=>1-i.k) ⟨0,0,.emp 0,.emp 0,.emp 0,.emp 0,.emp 0,.emp 0⟩ ⟨nzl _,λO hO=>by
   simp at hO;subst hO;exact⟨rfl,λ_=>trivial⟩⟩ (Wk.temps ?_) ?_
 ·(simp only[go_sem,qh,qf,qb,qg];try (repeat' first|(with_reducible apply aiA)|(apply qe;omega)|(apply qd;rfl)|exact qi))
  done
 rintro⟨k,vb,O7,O8,O9,O10,O11,O12⟩ ⟨i1,i2⟩ K hK;simp only at i1 i2 hK;obtain⟨s7,l7⟩:=i2 O7 (by simp);obtain⟨s8,l8⟩:=i2 O8 (by simp);obtain⟨s9,l9⟩:=i2 O9 (by simp);obtain⟨s10,l10⟩:=i2 O10 (by simp);obtain⟨s11,l11⟩:=i2 O11 (by simp);obtain⟨s12,l12⟩:=i2 O12 (by simp);have s7': ∀m,qH (O7::m) 0=true:=λ_=>s7
 have s8': ∀m,qH (O8::m) 0=true:=λ_=>s8
 by_cases hk:k<=0
 case neg=>
  have q1:((k:Int)<(1:Int))=False:=wi;have eR:rwK x [] [] S k=rwA x [] [] S:=by unfold rwK;rw[lnl,ine hk]
  rw[eR]
  by_cases g5:1024<(rwA x [] [] S).length
  ·have q5:((1024:Int)<(rwA x [] [] S).length)=True:=wh;simp only[ipo g5];simp (disch:=omega) only[q1,q5,go_sem]
   repeat' first|(apply qa;exact rvk;simp only[go_sem])|with_reducible apply aiA|exact clz|fail
   exact VLe.tup ⟨zB,qi,trivial⟩
  ·have q5:((1024:Int)<(rwA x [] [] S).length)=False:=wi;simp only[ine g5];simp (disch:=omega) only[q1,q5,go_sem]
   repeat' first|(apply qa;exact rvk;simp only[go_sem])|with_reducible apply aiA|exact clz|fail
   exact VLe.tup ⟨qdR (gH _).symm,qi,trivial⟩
 have q1:((k:Int)<(1:Int))=True:=wh;have q2:(0<=(k:Int))=True:=wh;have hk0:k=0:=by omega
 have hMl:MC.length=3:=by rw[hMC];rfl
 have q3:(k*3+3<=MC.length)=True:=wh;have eR:rwK x [] [] S k=rwL x [] [] S k:=by unfold rwK;rw[lnl,ipo hk]
 have eN:nxT x [] k=jj [] k:=by unfold nxT;rw[lnl,ipo hk]
 rw[eR,eN];obtain⟨f,hf⟩:=wc x.col.length
 obtain⟨t',ht'⟩:=wc x.col.length
 obtain⟨RV,hRV⟩:=wc AV.nl
 have eM:List.take 3 (List.drop (k*3) MC)= [.int .i64 (f:Int),.int .i64 (t':Int),RV]:=by rw[hk0,hMC,hf,ht',hRV];rfl
 have a5:jj [] k<=f:=by rw[hk0];exact nzl _
 have a6:f<=x.col.length:=by omega
 have lRV: ∀n,qS n RV=true:=λn=>by rw[hRV];rfl
 have c3:=λh=>qAx x (jj [] k) f S h
 have hit:=itS x S (jj [] k) f hz ho hSl a6 a5;have hpF:=Uy ho hSl (f:=jj [] k) (d:=f-jj [] k) om;obtain⟨ps,hps⟩:=wc (spk x S (jj [] k) (f-jj [] k))
 have hxl:(spX x S (jj [] k) (f-jj [] k))=ps.map λp=> [.agg (pcC p)]:=by unfold spX;rw[hps]
 rw[hxl]at hit;rw[<-hps]at hpF;unfold coC at c3 hit;simp (disch:=omega) only[q1,q2,q3,eM,s7',s8',go_sem]
 repeat' first|(refine cA (c3 _) flk ?_;simp (disch:=omega) only[go_sem])|with_reducible apply aiA|exact clz|fail
 obtain⟨L0,hL0⟩:=wc (rwL x [] [] S k)
 have hLF: ∀r∈L0,PcF r.p:=by rw[hL0];exact qfG ho hus hSl (λi hi=>absurd hi (by simp)) hk
 have hLn:(L0++rwM ps (-1) (-1)).length<=1000000000:=by
  refine Nat.le_trans ?_ hN;rw[hL0,hps,hf,hk0];exact nlr _
 rw[<-hL0];obtain⟨P7,hP7⟩:=wc (AObj.mem (qo (some O7)+1) 3 [.int .i64 (k:Int)])
 obtain⟨P8,hP8⟩:=wc (AObj.mem (qo (some O8)+1) 39 [.int .i64 (f:Int),.int .i64 (t':Int),RV])
 have hP7l:qH [P7] 0=true∧ ∀n,lowO n P7:=by
  rw[hP7];refine⟨rfl,λn c hc=> ?_⟩;rw[List.mem_singleton]at hc;subst hc;rfl
 have hP8l:qH [P8] 0=true∧ ∀n,lowO n P8:=by
  rw[hP8];refine⟨rfl,λn c hc=> ?_⟩;simp only[List.mem_cons,List.not_mem_nil,or_false]at hc;rcases hc with rfl|rfl|rfl
  ·rfl
  ·rfl
  ·exact lRV n
 have cP7: ∀m,cellsOf (P7::m) 0 (qo (some O7)+1)=some [.int .i64 (k:Int)]:=λm=>by rw[hP7];simp only[go_sem]
 rw[<-hP7,<-hP8];have lP: ∀L:List Rw,∀v n,lowO n (zw v 133 (jo (bsW L))):=λL v n=>jl (qbQ _ n)
 have hLow: ∀(L M:List Rw) (v w:Nat) O A,(∀n,lowO n A)->LowI (h++ [.mem 1 26 [.str x.sec,strs x.sig,qp x.tok,qw x.col],.emp 1,.emp 2,.mem 1 45 [.osl (h.length+15) w 7 0 M.length],.mem 1 135 [.fn (.func 69) [] [.op (h.length+3) 1 0]],O5,.mem 1 39 MC,P7,P8,O,O10,O11,O12,.emp 0,.emp 0,zw w 133 (jo (bsW M))])
   (h++ [.mem 1 26 [.str x.sec,strs x.sig,qp x.tok,qw x.col],.emp 1,.emp 2,.mem 1 45 [.osl (h.length+15) v 7 0 L.length],.mem 1 135 [.fn (.func 69) [] [.op (h.length+3) 1 0]],O5,.mem 1 39 MC,P7,P8,A,O10,O11,O12,.emp 0,.emp 0,zw v 133 (jo (bsW L))]):=λL M v w O A lA=>by
  refine⟨by simp,λo ho=> ?_⟩;rcases List.mem_append.1 ho with h1|h1
  ·exact .inl (List.mem_append_left _ h1)
  ·simp only[List.mem_cons,List.not_mem_nil,or_false]at h1;rcases h1 with rfl|rfl|rfl|rfl|rfl|rfl|rfl|rfl|rfl|rfl|rfl|rfl|rfl|rfl|rfl|rfl
   ·left;simp
   ·left;simp
   ·left;simp
   ·right;refine⟨λc hc=> ?_,λc hc=> ?_⟩<;>
    ·rw[List.mem_singleton]at hc;subst hc;simp[qS]
     try omega
   ·left;simp
   ·left;simp
   ·left;simp
   ·left;simp
   ·left;simp
   ·right;exact⟨lA _,lA _⟩
   ·left;simp
   ·left;simp
   ·left;simp
   ·left;simp
   ·left;simp
   ·right;exact⟨lP _ _ _,lP _ _ _⟩
 refine qY hit (λa ha=> ?_)
  (S:=λi hh=> ∃A,qH [A] 0=true∧(∀n,lowO n A)∧hh=h++ [.mem 1 26 [.str x.sec,strs x.sig,qp x.tok,qw x.col],.emp 1,.emp 2,.mem 1 45 [.osl (h.length+15) (vb+i) 7 0 (L0++rwM (ps.take i) (-1) (-1)).length],.mem 1 135 [.fn (.func 69) [] [.op (h.length+3) 1 0]],O5,.mem 1 39 MC,P7,P8,A,O10,O11,O12,.emp 0,.emp 0,zw (vb+i) 133 (jo (bsW (L0++rwM (ps.take i) (-1) (-1))))]) (E:=λ_ _=>False) ?_ ?_ ?_ ?_ ?_ ?_ ?_
 ·obtain⟨c,_,rfl⟩:=List.mem_map.1 ha;rfl
 ·rintro i hh ⟨A,_,lA,rfl⟩;exact hLow _ _ _ _ _ _ lA
 ·intro s hh hf;exact hf.elim
 ·exact⟨O9,s9,l9,by simp[rwM]⟩
 ·simp[qS,qS.lowVs]
  repeat' apply aiA
  all_goals first|rfl|omega|exact lRV _
 ·rintro i hh tl LI TS hi ⟨A,sA,lA,rfl⟩ hlen K1 K2 hK1 hN1 hR1 hX1;have hi':i<ps.length:=by rw[List.length_map]at hi;exact hi
  rw[List.getElem_map];have sA': ∀m,qH (A::m) 0=true:=λ_=>sA
  have hS:L0++rwM (ps.take (i+1)) (-1) (-1)=(L0++rwM (ps.take i) (-1) (-1))++ [⟨ps.getD i default,-1,-1⟩]:=by
   unfold rwM;rw[List.take_add_one,zH hi',List.map_append,gdqA,zH hi',List.append_assoc];rfl
  have eG:ps[i]=ps.getD i default:=by rw[gdqA,zH hi'];rfl
  rw[eG];have hpm:ps.getD i default∈ps:=jk hi';obtain⟨p,hp'⟩:=wc (ps.getD i default)
  rw[<-hp']at hS hpm ⊢;obtain⟨M,hM⟩:=wc (L0++rwM (ps.take i) (-1) (-1))
  have hMF: ∀r∈M,PcF r.p:=λr hr=>by
   rw[hM]at hr;rcases List.mem_append.1 hr with hr|hr
   ·exact hLF r hr
   ·exact hpF _ (List.mem_of_mem_take (jF.1 hr).1)
  have hMn:M.length<=1000000000:=by
   rw[hM,lap,jy,List.length_take];rw[lap,jy]at hLn;omega
  rw[<-hM]at hS ⊢;simp only[jV,List.append_assoc,lca,lna];simp (disch:=omega) only[sA',pcC,tkC,go_sem];refine hK1 _ _ (h++ [.mem 1 26 [.str x.sec,strs x.sig,qp x.tok,qw x.col],.emp 1,.emp 2,.mem 1 45 [.osl (h.length+15) (vb+i) 7 0 M.length],.mem 1 135 [.fn (.func 69) [] [.op (h.length+3) 1 0]],O5,.mem 1 39 MC,P7,P8,(.mem (qo (some A)+1) 131 (pcC p)),O10,O11,O12,.emp 0,.emp 0,zw (vb+i) 133 (jo (bsW M))]) ?_ ?_ ?_
  ·simp[pcC,tkC]
  ·simp
  ·simp only[List.append_assoc,lca,lna];simp (disch:=omega) only[pcC,tkC,go_sem]
   repeat' first|with_reducible apply aiA|exact clz|fail
   refine kf (qv9 (a:=h.length+3) (b:=h.length+15) (c:=h.length) (va:=1) (vb:=vb+i) (Z:= .mem 1 26 [.str x.sec,strs x.sig,qp x.tok,qw x.col]) ⟨by simp,by simp,by simp,om,om,om⟩ M p (-1) (-1) (by simp only[go_sem]) (by simp only[go_sem]) (by simp only[go_sem]) (by rw[<-hX0];exact lX0) (hpF p hpm) hMn hMF) ?_;simp (disch:=omega) only[go_sem];refine hN1 _ _ (h++ [.mem 1 26 [.str x.sec,strs x.sig,qp x.tok,qw x.col],.emp 1,.emp 2,.mem 1 45 [.osl (h.length+15) (vb+(i+1)) 7 0 (M++ [(⟨p,-1,-1⟩:Rw)]).length],.mem 1 135 [.fn (.func 69) [] [.op (h.length+3) 1 0]],O5,.mem 1 39 MC,P7,P8,(.mem (qo (some A)+1) 131 (pcC p)),O10,O11,O12,.emp 0,.emp 0,zw (vb+(i+1)) 133 (jo (bsW (M++ [(⟨p,-1,-1⟩:Rw)])))]) ?_ ?_ ⟨_,rfl,?_,by rw[hS]⟩
   ·simp[pcC,tkC,Nat.add_assoc]
   ·simp
   ·intro n c hc;simp[pcC,tkC]at hc;rcases hc with rfl|rfl|rfl|rfl|rfl|rfl|rfl<;>rfl
 ·rintro hh ⟨A,sA,lA,rfl⟩;rw[List.length_map,List.take_length];obtain⟨L1,hL1⟩:=wc (L0++rwM ps (-1) (-1))
  rw[<-hL1]
  by_cases hkl:k<0
  case neg=>
   have hke:k=0:=by omega
   obtain⟨b1,b2⟩:f=x.col.length∧t'=x.col.length:=⟨hf,ht'⟩
   have q4:((k:Int)=0)=True:=wh;rw[hP7,hP8];simp (disch:=omega) only[q4,go_sem]
   repeat' first|with_reducible apply aiA|exact clz|fail
   rw[<-hP7,<-hP8];have e1:rwK x [] [] S (k+1)=L1:=by
    unfold rwK;rw[ine (by simp),hL1,hL0,hps,b1,hke];rfl
   have e2:nxT x [] (k+1)=t':=by unfold nxT;rw[ine (by simp),b2]
   refine hK _ _ ⟨k+1,vb+ps.length,P7,P8,A,O10,O11,O12⟩ ⟨by simp only;omega,λO hO=> ?_⟩ (by simp only;omega) ?_
   ·simp only[List.mem_cons,List.not_mem_nil,or_false]at hO;rcases hO with rfl|rfl|rfl|rfl|rfl|rfl
    ·exact hP7l
    ·exact hP8l
    ·exact⟨sA,lA⟩
    ·exact⟨s10,l10⟩
    ·exact⟨s11,l11⟩
    ·exact⟨s12,l12⟩
   ·simp only[e1,e2];refine Wk.temps ?_
    (simp only[go_sem,qh,qf,qb,qg];try exact wa)
  exact absurd hkl (nnz k)
 ·intro e hh hf;exact hf.elim
theorem qB0(h:we)(k:Nat)(hk:qH h k=true):ACalls Tryz.prog 71 [.el] h (.osl k (qo (qq k h)+1) 3 0 0) (qn k h (.mem (qo (qq k h)+1) 39 [])):=by
 refine qbR qtQ k (by simp) ?_;simp only[lco,lnl,Nat.reduceAdd,Nat.reduceSub,List.replicate,lca,lna];simp (disch:=omega) only[qBt,go_sem]
 repeat' first|(with_reducible apply aiA)
 all_goals first
  |omega
  |contradiction
  |skip
 all_goals try rfl
 exact⟨h.length+1,2,3,0,0,39,[],_,⟨trivial,trivial⟩,rfl,rfl,om,by simp only[go_sem],(λc hc=>by cases hc),hk,rfl,rfl⟩
theorem qCc(x:Co)(d:List Dc)(s:Int)(h:we)(hz:qfk x)(hp:ku SG h)(hg:z6 h frmN frmC)(hd:d.length<=1000000)(ht: ∀o∈d,o.txt.length<=1000)(hN0:vaE x []=0->(rwA x [] d s.toNat).length<=1000000000):
  ACalls Tryz.prog 17 [.agg (coC x),.el,qaH d,.int .i64 s] h (.tup [qee (esR x [] d s),.int .i64 (esE x [] d s)]) h:=by
 have hu:qoa []:=⟨by simp,λi=>by simp;exact nzl _,λi j=>by simp;exact nzl _,λi j=>by simp;exact nzl _⟩
 have c1:=λl'=>(qtb x [] (h++l') hz hu (hp.app l')).le (args:= [.agg (coC x),.el]) ⟨qi,qrv,trivial⟩ (qi)
 have zu: ∀g l,valL g .len [jI l]= .int .i64 l.length:=λ_ _=>rfl
 have zv: ∀g l,okL g .len [jI l]=True:=λ_ _=>eqt trivial
 have zu1: ∀g l,valL g .len [strs l]= .int .i64 l.length:=λ_ _=>rfl
 have zv1: ∀g l,okL g .len [strs l]=True:=λ_ _=>eqt trivial
 have hE:esE x [] d s=(if vaE x []≠0 then vaE x [] else if s<0∨(x.sig.length:Int)<=s then 2 else if qbt x [] d≠0 then qbt x [] d else if 1024<(rwA x [] d s.toNat).length then 4 else 0):=rfl;unfold esR
 by_cases g:vaE x []=0
 case neg=>
  have k1:(vaE x []=0)=False:=eqf g;rw[ipo g]at hE;rw[hE,ine g];unfold coC at c1;refine acO UV ?_;simp (disch:=omega) only[qfh,coC,go_sem]
  repeat' first|(refine cA (c1 _) flk ?_;simp (disch:=omega) only[k1,go_sem])|(apply qa;exact rvk;simp only[go_sem])
  exact VLe.tup ⟨zB,qi,trivial⟩
 rw[ine (by simpa using g)]at hE;have hN:=hN0 g;simp only[g]at c1;obtain⟨hca,hus,hcv⟩:=qfa g;have ho:=qad hca
 by_cases g2:s<0
 ·have k2:(s<0)=True:=eqt g2;rw[ipo (.inl g2)]at hE;rw[hE,ine (by decide)];unfold coC at c1;refine acO UV ?_;simp (disch:=omega) only[qfh,coC,go_sem]
  repeat' first|(refine cA (c1 _) flk ?_;simp (disch:=omega) only[k2,go_sem])|(apply qa;exact rvk;simp only[go_sem])
  exact VLe.tup ⟨zB,qi,trivial⟩
 have k2:(s<0)=False:=eqf g2
 by_cases g3:(x.sig.length:Int)<=s
 ·have k3:((x.sig.length:Int)<=s)=True:=eqt g3;rw[ipo (.inr g3)]at hE;rw[hE,ine (by decide)];unfold coC at c1;refine acO UV ?_;simp (disch:=omega) only[qfh,coC,go_sem]
  repeat' first|(refine cA (c1 _) flk ?_;simp (disch:=omega) only[k2,k3,zu1,zv1,go_sem])|(apply qa;exact rvk;simp only[go_sem])
  exact VLe.tup ⟨zB,qi,trivial⟩
 have k3:((x.sig.length:Int)<=s)=False:=eqf g3;rw[ine (λe=>e.elim g2 g3)]at hE;have c2:=λl'=>(qCU x [] d (h++l') hz hu (hp.app l') hg.app hca hd ht).le (args:= [.agg (coC x),.el,qaH d]) ⟨qi,qrv,qi,trivial⟩ (qi)
 unfold qz0 at c2
 by_cases g4:qbt x [] d=0
 case neg=>
  have k4:(qbt x [] d=0)=False:=eqf g4;simp only[ine g4]at c2;rw[ipo g4]at hE;rw[hE,ine g4];unfold coC at c1 c2;refine acO UV ?_;simp (disch:=omega) only[qfh,coC,go_sem]
  repeat' first|((first|refine cA (c1 _) ?_ ?_|refine cA (c2 _) ?_ ?_);exact flk;simp (disch:=omega) only[k2,k3,k4,zu1,zv1,go_sem])|(apply qa;exact rvk;simp only[go_sem])|with_reducible apply aiA|exact clz|fail
  exact VLe.tup ⟨zB,qi,trivial⟩
 rw[ine (by simpa using g4)]at hE;simp only[g4,if_true]at c2;rw[hE];unfold coC at c1 c2;refine acO UV ?_;simp (disch:=omega) only[qfh,coC,go_sem]
 repeat' first|((first|refine cA (c1 _) ?_ ?_|refine cA (c2 _) ?_ ?_);exact flk;simp (disch:=omega) only[k2,k3,zu1,zv1,go_sem])|with_reducible apply aiA|exact clz|fail
 have hd0:d= []:=by
  cases d with
  |nil=>rfl
  |cons o r=>
   exfalso
   have:=g4
   unfold qbt at this;split at this
   ·cases this
   ·have h0:=jR.1 this 0 (by simp);have h1:=(qaU h0).2.2.2.2.1;have h2:eE x [] ((o::r).getD 0 default)= -1:=rfl;omega
 subst hd0;have zi: ∀g l,valL g .len [qP l]= .int .i64 l.length:=λ_ _=>rfl
 have zj: ∀g l,okL g .len [qP l]=True:=λ_ _=>eqt trivial
 have ePL:(plG x [] [] ([]:List Dc).length).length=0:=rfl;refine qy (qAi (j:=h.length+2) (-1) (List.drop 1 (zf [.int .i64 0] 1)) ?j1) (by exact flk) ?_
 case j1=>simp only[go_sem]
 simp (disch:=omega) only[zi,zj,go_sem];refine qt (T:=λ_:Unit=>zg 154 [(1,.el),(3,.int .i64 s),(4,.op h.length 1 0),(13,qP []),(56,.int .i64 0),(57,.int .i64 0)])
  (H:=λ_=>h++ [.mem 1 26 [.str x.sec,strs x.sig,qp x.tok,qw x.col],.emp 1,.emp 2,.emp 0,.emp 0,.emp 0,.emp 0,.emp 0,.emp 0,.emp 0,.emp 0,.emp 0,.emp 0,.emp 0,.emp 0,.emp 0])
  (inv:=λ_=>True) (m:=λ_=>0) () trivial (Wk.temps ?_) ?_
 ·(simp only[go_sem,qh,qf,qb,qg];try exact wa)
 rintro⟨⟩-K hK;have q1:((0:Int)<0)=False:=wi;simp (disch:=omega) only[q1,go_sem];refine⟨_,_,Wk.ownNil (j:=h.length+3) (i:=0) (k:=h.length+15) (v:=1) (ty:=45) (cs:= [.nl]) (ve:=0) (sz:=7) ?m1 rfl ?m2,?_⟩
 case m1=>simp only[go_sem]
 case m2=>simp only[go_sem]
 simp (disch:=omega) only[List.set_cons_zero,go_sem];have bne5:(h.length+14 !=h.length+5)=true:=by simp
 have zc: ∀g l,valL g .len [qw l]= .int .i64 l.length:=λ_ _=>rfl
 have zd: ∀g l,okL g .len [qw l]=True:=λ_ _=>eqt trivial
 refine kg ?T ?H ?h1 ?h2
 case h1=>
  simp (disch:=omega) only[zc,zd,go_sem]
  repeat' first|(with_reducible apply aiA)|(refine qy (qB0 _ (h.length+14) (by simp only[go_sem])) (by exact flk) ?_;simp (disch:=omega) only[zc,zd,go_sem])
  all_goals first
   |omega
   |rfl
   |exact bne5
 case h2=>
 simp (disch:=omega) only[go_sem];obtain⟨S,hS⟩: ∃S:Nat,s=S:=⟨s.toNat,om⟩
 subst hS;rw[itn]at hN ⊢;have hSl:S<x.sig.length:=by omega
 obtain⟨MC,hMC⟩:=wc ( [AV.int .i64 x.col.length,.int .i64 x.col.length,.nl])
 rw[<-hMC];obtain⟨O5,hO5⟩:=wc (AObj.mem 1 39 (AV.int .i64 x.col.length:: .int .i64 x.col.length:: .nl::List.drop 3 (zf [.int .i64 0,.int .i64 0,.nl] 1)))
 rw[<-hO5];obtain⟨X0,hX0⟩:=wc (AObj.mem 1 26 [.str x.sec,strs x.sig,qp x.tok,qw x.col])
 have lX0: ∀n,lowO n X0:=by
  intro n;rw[hX0];intro c hc;simp at hc;rcases hc with rfl|rfl|rfl|rfl<;>rfl
 refine qt (T:=λi:EsS=>zg 154 [(1,.el),(3,.int .i64 (S:Int)),(4,.op h.length 1 0),(13,qP []),(16,.op (h.length+3) 1 0),(17,.op (h.length+4) 1 0),(18,.int .i64 (nxT x [] i.k:Int)),(78,.osl (h.length+14) 2 3 0 1),(79,.int .i64 1),(80,.int .i64 i.k)])
  (H:=λi=>h++ [.mem 1 26 [.str x.sec,strs x.sig,qp x.tok,qw x.col],.emp 1,.emp 2,.mem 1 45 [.osl (h.length+15) i.vb 7 0 (rwK x [] [] S i.k).length],.mem 1 135 [.fn (.func 69) [] [.op (h.length+3) 1 0]],O5,.emp 0,i.O7,i.O8,i.O9,i.O10,i.O11,i.O12,.emp 0,.mem 2 39 MC,zw i.vb 133 (jo (bsW (rwK x [] [] S i.k)))])
  (inv:=λi=>i.k<=1∧ ∀O∈ [i.O7,i.O8,i.O9,i.O10,i.O11,i.O12],qH [O] 0=true∧ ∀n,lowO n O) (m:=λi=>1-i.k) ⟨0,0,.emp 0,.emp 0,.emp 0,.emp 0,.emp 0,.emp 0⟩ ⟨nzl _,λO hO=>by
   simp at hO;subst hO;exact⟨rfl,λ_=>trivial⟩⟩ (Wk.temps ?_) ?_
 ·(simp only[go_sem,qh,qf,qb,qg];try (repeat' first|(with_reducible apply aiA)|(apply qe;omega)|(apply qd;rfl)|exact qi))
  done
 rintro⟨k,vb,O7,O8,O9,O10,O11,O12⟩ ⟨i1,i2⟩ K hK;simp only at i1 i2 hK;obtain⟨s7,l7⟩:=i2 O7 (by simp);obtain⟨s8,l8⟩:=i2 O8 (by simp);obtain⟨s9,l9⟩:=i2 O9 (by simp);obtain⟨s10,l10⟩:=i2 O10 (by simp);obtain⟨s11,l11⟩:=i2 O11 (by simp);obtain⟨s12,l12⟩:=i2 O12 (by simp);have s7': ∀m,qH (O7::m) 0=true:=λ_=>s7
 have s8': ∀m,qH (O8::m) 0=true:=λ_=>s8
 by_cases hk:k<=0
 case neg=>
  have q1:((k:Int)<(1:Int))=False:=wi;have eR:rwK x [] [] S k=rwA x [] [] S:=by unfold rwK;rw[lnl,ine hk]
  rw[eR]
  by_cases g5:1024<(rwA x [] [] S).length
  ·have q5:((1024:Int)<(rwA x [] [] S).length)=True:=wh;simp only[ipo g5];simp (disch:=omega) only[q1,q5,go_sem]
   repeat' first|(apply qa;exact rvk;simp only[go_sem])|with_reducible apply aiA|exact clz|fail
   exact VLe.tup ⟨zB,qi,trivial⟩
  ·have q5:((1024:Int)<(rwA x [] [] S).length)=False:=wi;simp only[ine g5];simp (disch:=omega) only[q1,q5,go_sem]
   repeat' first|(apply qa;exact rvk;simp only[go_sem])|with_reducible apply aiA|exact clz|fail
   exact VLe.tup ⟨qdR (gH _).symm,qi,trivial⟩
 have q1:((k:Int)<(1:Int))=True:=wh;have q2:(0<=(k:Int))=True:=wh;have hk0:k=0:=by omega
 have hMl:MC.length=3:=by rw[hMC];rfl
 have q3:(k*3+3<=MC.length)=True:=wh;have eR:rwK x [] [] S k=rwL x [] [] S k:=by unfold rwK;rw[lnl,ipo hk]
 have eN:nxT x [] k=jj [] k:=by unfold nxT;rw[lnl,ipo hk]
 rw[eR,eN];obtain⟨f,hf⟩:=wc x.col.length
 obtain⟨t',ht'⟩:=wc x.col.length
 obtain⟨RV,hRV⟩:=wc AV.nl
 have eM:List.take 3 (List.drop (k*3) MC)= [.int .i64 (f:Int),.int .i64 (t':Int),RV]:=by rw[hk0,hMC,hf,ht',hRV];rfl
 have a5:jj [] k<=f:=by rw[hk0];exact nzl _
 have a6:f<=x.col.length:=by omega
 have lRV: ∀n,qS n RV=true:=λn=>by rw[hRV];rfl
 have c3:=λh=>qAx x (jj [] k) f S h
 have hit:=itS x S (jj [] k) f hz ho hSl a6 a5;have hpF:=Uy ho hSl (f:=jj [] k) (d:=f-jj [] k) om;obtain⟨ps,hps⟩:=wc (spk x S (jj [] k) (f-jj [] k))
 have hxl:(spX x S (jj [] k) (f-jj [] k))=ps.map λp=> [.agg (pcC p)]:=by unfold spX;rw[hps]
 rw[hxl]at hit;rw[<-hps]at hpF;unfold coC at c3 hit;simp (disch:=omega) only[q1,q2,q3,eM,s7',s8',go_sem]
 repeat' first|(refine cA (c3 _) flk ?_;simp (disch:=omega) only[go_sem])|with_reducible apply aiA|exact clz|fail
 obtain⟨L0,hL0⟩:=wc (rwL x [] [] S k)
 have hLF: ∀r∈L0,PcF r.p:=by rw[hL0];exact qfG ho hus hSl (λi hi=>absurd hi (by simp)) hk
 have hLn:(L0++rwM ps (-1) (-1)).length<=1000000000:=by
  refine Nat.le_trans ?_ hN;rw[hL0,hps,hf,hk0];exact nlr _
 rw[<-hL0];obtain⟨P7,hP7⟩:=wc (AObj.mem (qo (some O7)+1) 3 [.int .i64 (k:Int)])
 obtain⟨P8,hP8⟩:=wc (AObj.mem (qo (some O8)+1) 39 [.int .i64 (f:Int),.int .i64 (t':Int),RV])
 have hP7l:qH [P7] 0=true∧ ∀n,lowO n P7:=by
  rw[hP7];refine⟨rfl,λn c hc=> ?_⟩;rw[List.mem_singleton]at hc;subst hc;rfl
 have hP8l:qH [P8] 0=true∧ ∀n,lowO n P8:=by
  rw[hP8];refine⟨rfl,λn c hc=> ?_⟩;simp only[List.mem_cons,List.not_mem_nil,or_false]at hc;rcases hc with rfl|rfl|rfl
  ·rfl
  ·rfl
  ·exact lRV n
 have cP7: ∀m,cellsOf (P7::m) 0 (qo (some O7)+1)=some [.int .i64 (k:Int)]:=λm=>by rw[hP7];simp only[go_sem]
 rw[<-hP7,<-hP8];have lP: ∀L:List Rw,∀v n,lowO n (zw v 133 (jo (bsW L))):=λL v n=>jl (qbQ _ n)
 have hLow: ∀(L M:List Rw) (v w:Nat) O A,(∀n,lowO n A)->LowI (h++ [.mem 1 26 [.str x.sec,strs x.sig,qp x.tok,qw x.col],.emp 1,.emp 2,.mem 1 45 [.osl (h.length+15) w 7 0 M.length],.mem 1 135 [.fn (.func 69) [] [.op (h.length+3) 1 0]],O5,.emp 0,P7,P8,O,O10,O11,O12,.emp 0,.mem 2 39 MC,zw w 133 (jo (bsW M))])
   (h++ [.mem 1 26 [.str x.sec,strs x.sig,qp x.tok,qw x.col],.emp 1,.emp 2,.mem 1 45 [.osl (h.length+15) v 7 0 L.length],.mem 1 135 [.fn (.func 69) [] [.op (h.length+3) 1 0]],O5,.emp 0,P7,P8,A,O10,O11,O12,.emp 0,.mem 2 39 MC,zw v 133 (jo (bsW L))]):=λL M v w O A lA=>by
  refine⟨by simp,λo ho=> ?_⟩;rcases List.mem_append.1 ho with h1|h1
  ·exact .inl (List.mem_append_left _ h1)
  ·simp only[List.mem_cons,List.not_mem_nil,or_false]at h1;rcases h1 with rfl|rfl|rfl|rfl|rfl|rfl|rfl|rfl|rfl|rfl|rfl|rfl|rfl|rfl|rfl|rfl
   ·left;simp
   ·left;simp
   ·left;simp
   ·right;refine⟨λc hc=> ?_,λc hc=> ?_⟩<;>
    ·rw[List.mem_singleton]at hc;subst hc;simp[qS]
     try omega
   ·left;simp
   ·left;simp
   ·left;simp
   ·left;simp
   ·left;simp
   ·right;exact⟨lA _,lA _⟩
   ·left;simp
   ·left;simp
   ·left;simp
   ·left;simp
   ·left;simp
   ·right;exact⟨lP _ _ _,lP _ _ _⟩
 refine qY hit (λa ha=> ?_)
  (S:=λi hh=> ∃A,qH [A] 0=true∧(∀n,lowO n A)∧hh=h++ [.mem 1 26 [.str x.sec,strs x.sig,qp x.tok,qw x.col],.emp 1,.emp 2,.mem 1 45 [.osl (h.length+15) (vb+i) 7 0 (L0++rwM (ps.take i) (-1) (-1)).length],.mem 1 135 [.fn (.func 69) [] [.op (h.length+3) 1 0]],O5,.emp 0,P7,P8,A,O10,O11,O12,.emp 0,.mem 2 39 MC,zw (vb+i) 133 (jo (bsW (L0++rwM (ps.take i) (-1) (-1))))]) (E:=λ_ _=>False) ?_ ?_ ?_ ?_ ?_ ?_ ?_
 ·obtain⟨c,_,rfl⟩:=List.mem_map.1 ha;rfl
 ·rintro i hh ⟨A,_,lA,rfl⟩;exact hLow _ _ _ _ _ _ lA
 ·intro s hh hf;exact hf.elim
 ·exact⟨O9,s9,l9,by simp[rwM]⟩
 ·simp[qS,qS.lowVs]
  repeat' apply aiA
  all_goals first|rfl|omega|exact lRV _
 ·rintro i hh tl LI TS hi ⟨A,sA,lA,rfl⟩ hlen K1 K2 hK1 hN1 hR1 hX1;have hi':i<ps.length:=by rw[List.length_map]at hi;exact hi
  rw[List.getElem_map];have sA': ∀m,qH (A::m) 0=true:=λ_=>sA
  have hS:L0++rwM (ps.take (i+1)) (-1) (-1)=(L0++rwM (ps.take i) (-1) (-1))++ [⟨ps.getD i default,-1,-1⟩]:=by
   unfold rwM;rw[List.take_add_one,zH hi',List.map_append,gdqA,zH hi',List.append_assoc];rfl
  have eG:ps[i]=ps.getD i default:=by rw[gdqA,zH hi'];rfl
  rw[eG];have hpm:ps.getD i default∈ps:=jk hi';obtain⟨p,hp'⟩:=wc (ps.getD i default)
  rw[<-hp']at hS hpm ⊢;obtain⟨M,hM⟩:=wc (L0++rwM (ps.take i) (-1) (-1))
  have hMF: ∀r∈M,PcF r.p:=λr hr=>by
   rw[hM]at hr;rcases List.mem_append.1 hr with hr|hr
   ·exact hLF r hr
   ·exact hpF _ (List.mem_of_mem_take (jF.1 hr).1)
  have hMn:M.length<=1000000000:=by
   rw[hM,lap,jy,List.length_take];rw[lap,jy]at hLn;omega
  rw[<-hM]at hS ⊢;simp only[jV,List.append_assoc,lca,lna];simp (disch:=omega) only[sA',pcC,tkC,go_sem];refine hK1 _ _ (h++ [.mem 1 26 [.str x.sec,strs x.sig,qp x.tok,qw x.col],.emp 1,.emp 2,.mem 1 45 [.osl (h.length+15) (vb+i) 7 0 M.length],.mem 1 135 [.fn (.func 69) [] [.op (h.length+3) 1 0]],O5,.emp 0,P7,P8,(.mem (qo (some A)+1) 131 (pcC p)),O10,O11,O12,.emp 0,.mem 2 39 MC,zw (vb+i) 133 (jo (bsW M))]) ?_ ?_ ?_
  ·simp[pcC,tkC]
  ·simp
  ·simp only[List.append_assoc,lca,lna];simp (disch:=omega) only[pcC,tkC,go_sem]
   repeat' first|with_reducible apply aiA|exact clz|fail
   refine kf (qv9 (a:=h.length+3) (b:=h.length+15) (c:=h.length) (va:=1) (vb:=vb+i) (Z:= .mem 1 26 [.str x.sec,strs x.sig,qp x.tok,qw x.col]) ⟨by simp,by simp,by simp,om,om,om⟩ M p (-1) (-1) (by simp only[go_sem]) (by simp only[go_sem]) (by simp only[go_sem]) (by rw[<-hX0];exact lX0) (hpF p hpm) hMn hMF) ?_;simp (disch:=omega) only[go_sem];refine hN1 _ _ (h++ [.mem 1 26 [.str x.sec,strs x.sig,qp x.tok,qw x.col],.emp 1,.emp 2,.mem 1 45 [.osl (h.length+15) (vb+(i+1)) 7 0 (M++ [(⟨p,-1,-1⟩:Rw)]).length],.mem 1 135 [.fn (.func 69) [] [.op (h.length+3) 1 0]],O5,.emp 0,P7,P8,(.mem (qo (some A)+1) 131 (pcC p)),O10,O11,O12,.emp 0,.mem 2 39 MC,zw (vb+(i+1)) 133 (jo (bsW (M++ [(⟨p,-1,-1⟩:Rw)])))]) ?_ ?_ ⟨_,rfl,?_,by rw[hS]⟩
   ·simp[pcC,tkC,Nat.add_assoc]
   ·simp
   ·intro n c hc;simp[pcC,tkC]at hc;rcases hc with rfl|rfl|rfl|rfl|rfl|rfl|rfl<;>rfl
 ·rintro hh ⟨A,sA,lA,rfl⟩;rw[List.length_map,List.take_length];obtain⟨L1,hL1⟩:=wc (L0++rwM ps (-1) (-1))
  rw[<-hL1]
  by_cases hkl:k<0
  case neg=>
   have hke:k=0:=by omega
   obtain⟨b1,b2⟩:f=x.col.length∧t'=x.col.length:=⟨hf,ht'⟩
   have q4:((k:Int)=0)=True:=wh;rw[hP7,hP8];simp (disch:=omega) only[q4,go_sem]
   repeat' first|with_reducible apply aiA|exact clz|fail
   rw[<-hP7,<-hP8];have e1:rwK x [] [] S (k+1)=L1:=by
    unfold rwK;rw[ine (by simp),hL1,hL0,hps,b1,hke];rfl
   have e2:nxT x [] (k+1)=t':=by unfold nxT;rw[ine (by simp),b2]
   refine hK _ _ ⟨k+1,vb+ps.length,P7,P8,A,O10,O11,O12⟩ ⟨by simp only;omega,λO hO=> ?_⟩ (by simp only;omega) ?_
   ·simp only[List.mem_cons,List.not_mem_nil,or_false]at hO;rcases hO with rfl|rfl|rfl|rfl|rfl|rfl
    ·exact hP7l
    ·exact hP8l
    ·exact⟨sA,lA⟩
    ·exact⟨s10,l10⟩
    ·exact⟨s11,l11⟩
    ·exact⟨s12,l12⟩
   ·simp only[e1,e2];refine Wk.temps ?_
    (simp only[go_sem,qh,qf,qb,qg];try exact wa)
  exact absurd hkl (nnz k)
 ·intro e hh hf;exact hf.elim
theorem qEm(x:Co)(l:List Un)(d:List Dc)(s:Int)(h:we)(hz:qfk x)(hu:qoa l)(hp:ku SG h)(hg:z6 h frmN frmC)(hd:d.length<=1000000)(ht: ∀o∈d,o.txt.length<=1000)(hN0:vaE x l=0->(rwA x l d s.toNat).length<=1000000000):
  ACalls Tryz.prog 17 [.agg (coC x),jI l,qaH d,.int .i64 s] h (.tup [qee (esR x l d s),.int .i64 (esE x l d s)]) h:=by
 cases l with
 |nil=>exact ACalls.sl0 (pre:= [.agg (coC x)]) (post:= [qaH d,.int .i64 s]) (qCb x d s h hz hp hg hd ht hN0) (qCc x d s h hz hp hg hd ht hN0)
 |cons u r=>exact qEn x (u::r) d s h hz hu hp hg (List.cons_ne_nil _ _) hd ht hN0
end RC
end
section
open Go Go.Proofs AF
end
section
open Go Go.Proofs AF
end
section
open Go Go.Proofs AF HY LN
namespace RC
theorem qkv(s:Str)(c:UInt8):ch (s++ [c]) s.length=c:=by unfold ch;rw[gdqA,List.getElem?_append_right (nlr _),Nat.sub_self];rfl
theorem qdh{s:Str}{c:UInt8}{i:Nat}(h:i<s.length):ch (s++ [c]) i=ch s i:=by unfold ch;rw[gdqA,List.getElem?_append_left h,gdqA]
def qeI(s:Str):Bool:=decide (0<s.length)&&(decide (kind (ch s (s.length-1))=1)||ze s (s.length-1))
theorem qc1{s:Str}{c:UInt8}: ∀ {i:Nat},i<s.length->ze (s++ [c]) i=ze s i:=by
 intro i
 induction i with
 |zero=>intro _;rfl
 |succ i ih=>
  intro h;unfold ze;rw[qdh h,qdh (show i<s.length by omega),ih om]
theorem qc0(s:Str)(c:UInt8):ze (s++ [c]) s.length=(decide (kind c=2)&&qeI s):=by
 unfold qeI;cases h:s.length with
 |zero=>rw[show ze (s++ [c]) 0=false from rfl];simp
 |succ n=>
  have e:=qkv s c;rw[h]at e;show (decide (kind (ch (s++ [c]) (n+1))=2)&&(decide (kind (ch (s++ [c]) n)=1)||ze (s++ [c]) n))=_;rw[e,qdh (show n<s.length by omega),qc1 (show n<s.length by omega)];simp
theorem W1(s:Str)(c:UInt8):qeI (s++ [c])=(decide (kind c=1)||(decide (kind c=2)&&qeI s)):=by
 conv=>lhs;unfold qeI
 rw[lap,List.length_singleton,Nat.add_sub_cancel,qkv,qc0];simp
def gdS(s:Str):Bool:= !(List.range s.length).any (kz s)
theorem qgj{s:Str}{c:UInt8}{i:Nat}(h:i<s.length):kz (s++ [c]) i=kz s i:=by unfold kz;rw[qdh h,qc1 h]
theorem qbC(s:Str)(c:UInt8):gdS (s++ [c])=(gdS s&&(!decide (kind c=0)&&(!decide (kind c=2)||qeI s))):=by
 unfold gdS;rw[lap,List.length_singleton,List.range_succ,List.any_append,List.any_cons,List.any_nil,Bool.or_false,Bool.not_or];congr 1
 ·congr 1;rw[Bool.eq_iff_iff,List.any_eq_true,List.any_eq_true];constructor
  ·rintro⟨i,h1,h2⟩;exact⟨i,h1,by rwa [qgj (List.mem_range.1 h1)]at h2⟩
  ·rintro⟨i,h1,h2⟩;exact⟨i,h1,by rwa [qgj (List.mem_range.1 h1)]⟩
 ·unfold kz;rw[qkv,qc0];cases decide (kind c=0)<;>cases decide (kind c=2)<;>cases qeI s<;>rfl
theorem qlh{s:Str}(h:zG s=0):gdS s=true:=by
 rw[gK]at h;split at h
 ·cases h
 split at h
 ·cases h
 rename_i g;unfold gdS;simpa using g
structure BsG (s:Str) (b:Bs):Prop where
 dn: ∀t∈b.done,t.text.length<=64->zW t.text=true
 cl:b.opn=false->qeI s=false
 op:b.opn=true->gdS b.word=true∧qeI b.word=qeI s∧(∃c r,b.word=c::r∧bgn c=true∧ ∀x∈r,UX x=true)
theorem qvS{w:Str}(h1:gdS w=true)(h2: ∃c r,w=c::r∧bgn c=true∧ ∀x∈r,UX x=true)(hl:w.length<=64):zW w=true:=by
 obtain⟨c,r,rfl,h3,h4⟩:=h2;have hc:zG (c::r)=0:=by
  rw[gK,ine om,ine];unfold gdS at h1;simpa using h1
 have hw:jr (c::r)=true:=by
  unfold jr;rw[hc,dqt hl];have e:ch (c::r) 0=c:=rfl;rw[e];unfold bgn at h3;rw[h3];have hs:((c::r).any λc=>decide (kind c=5)||decide (kind c=6))=false:=by
   rw[List.any_eq_false];intro x hx;have hi:UX x=true:=by
    rcases List.mem_cons.1 hx with rfl|hx
    ·exact U8 h3
    ·exact h4 x hx
   unfold UX at hi;simp only[Bool.or_eq_true,decide_eq_true_eq]at hi ⊢;omega
  rw[hs];simp
 unfold zW;rw[hw,Bool.true_or]
theorem BsG.fini{s:Str}{b:Bs}(h:BsG s b): ∀t∈b.fin,t.text.length<=64->zW t.text=true:=by
 intro t ht hl;unfold Bs.fin at ht;rcases List.mem_append.1 ht with ht|ht
 ·exact h.dn t ht hl
 ·split at ht
  ·rename_i ho;rw[List.mem_singleton]at ht;subst ht;obtain⟨a1,_,a3⟩:=h.op ho;exact qvS a1 a3 hl
  ·cases ht
theorem qzG{c:UInt8}:qeI [c]=decide (kind c=1):=by
 have:=W1 [] c
 rw[lna]at this;rw[this,show qeI []=false from rfl];simp
theorem qzs{c:UInt8}:gdS [c]=(!decide (kind c=0)&& !decide (kind c=2)):=by
 have:=qbC [] c
 rw[lna]at this;rw[this,show qeI []=false from rfl,show gdS []=true from rfl];simp
theorem qC2{s:Str}{b:Bs}(h:BsG s b){c:UInt8}(hg:gdS (s++ [c])=true):BsG (s++ [c]) (b.stp c):=by
 rw[qbC]at hg;simp only[Bool.and_eq_true,Bool.not_eq_true',Bool.or_eq_true,decide_eq_false_iff_not]at hg;obtain⟨hg,k0,k2⟩:=hg;unfold Bs.stp;split
 ·rename_i g;obtain⟨g1,g2⟩:=g;obtain⟨a1,a2,e,r,a3,a4,a5⟩:=h.op g1;refine⟨h.dn,λe=>(by cases e),λ_=>⟨?_,?_,e,r++ [c],?_,a4,λx hx=> ?_⟩⟩
  ·show gdS (b.word++ [c])=true;rw[qbC,a1,a2,dqf k0];rcases k2 with k2|k2
   ·rw[dqf k2];rfl
   ·rw[k2];simp
  ·show qeI (b.word++ [c])=_;rw[W1,W1,a2]
  ·show b.word++ [c]=_;rw[a3];rfl
  ·rcases List.mem_append.1 hx with hx|hx
   ·exact a5 x hx
   ·rw[List.mem_singleton]at hx;subst hx;exact g2
 rename_i g;split
 ·rename_i g2;have hb:kind c=1∨kind c=3:=by unfold bgn at g2;simpa using g2
  have n2:decide (kind c=2)=false:=dqf om;refine⟨h.fini,λe=>(by cases e),λ_=>⟨?_,?_,c,[],rfl,g2,λx hx=>by cases hx⟩⟩
  ·show gdS [c]=true;rw[qzs,dqf k0,n2];rfl
  ·show qeI [c]=_;rw[qzG,W1,n2];simp
 rename_i g2;have hb: ¬(kind c=1∨kind c=3):=λe=>g2 (by unfold bgn;simpa using e)
 have n1:decide (kind c=1)=false:=dqf om;have n2: ¬kind c=2:=λe=>by
  have hl:qeI s=true:=k2.resolve_left (λhn=>hn e);have ho:b.opn=true:=by
   cases hc:b.opn with
   |true=>rfl
   |false=>rw[h.cl hc]at hl;cases hl
  exact g ⟨ho,by unfold UX;rw[dqt e];simp⟩
 have hlm:qeI (s++ [c])=false:=by rw[W1,n1,dqf n2];rfl
 split
 ·exact⟨h.fini,λ_=>hlm,λe=>(by cases e)⟩
 ·rename_i g3;refine⟨λt ht hl=> ?_,λ_=>hlm,λe=>(by cases e)⟩;rcases List.mem_append.1 ht with ht|ht
  ·exact h.fini t ht hl
  ·rw[List.mem_singleton]at ht;subst ht;have e1:(tkF (8+jfl b.jn b.fin.length) [c]).text= [c]:=rfl;have e2:ch [c] 0=c:=rfl;rw[e1];unfold zW;rw[ipo (show [c].length=1 from rfl),e2];have hk:kind c=5∨kind c=4:=by
    have: ∀n,UM n=0∨UM n=1∨UM n=2∨UM n=3∨UM n=4∨UM n=5∨UM n=6:=λn=>by
     unfold UM;split
     ·omega
     split
     ·omega
     split
     ·omega
     split
     ·omega
     split
     ·omega
     split
     ·omega
     ·omega
    have:=this c.toNat
    unfold kind at*;omega
   rcases hk with hk|hk
   ·rw[dqt hk];simp
   ·rw[dqt hk];simp
theorem qBL(s:Str):gdS s=true->BsG s (bsL s):=by
 have key: ∀n (s:Str),s.length=n->gdS s=true->BsG s (bsL s):=by
  intro n
  induction n with
  |zero=>
   intro s hs _
   have:s= []:=List.eq_nil_of_length_eq_zero hs
   subst this;exact⟨λt ht=>absurd ht List.not_mem_nil,λ_=>rfl,λe=>by cases e⟩
  |succ n ih=>
   intro s hs hg;have hne:s≠ []:=λe=>by rw[e]at hs;cases hs
   have e:=List.dropLast_concat_getLast hne;obtain⟨p,c,rfl⟩: ∃p c,s=p++ [c]:=⟨_,_,e.symm⟩
   rw[qdf];have h1:gdS p=true:=by rw[qbC,Bool.and_eq_true]at hg;exact hg.1
   exact qC2 (ih p (by simpa using hs) h1) hg
 exact key s.length s rfl
theorem qnz{s:Str}(h:zG s=0)(ht:qhb s=0): ∀t∈qed s,zW t.text=true:=by
 intro t hm;obtain⟨u,_,rfl,hu⟩:=qf6 s hm;have hl:u.text.length<=64:=by
  unfold qhb at ht;split at ht
  ·cases ht
  rename_i g;have g:qug (qax s)=false:=by simpa using g
  obtain⟨i,hi,rfl⟩:=List.getElem_of_mem hu
  have:=of_decide_eq_false (qu.1 g i hi)
  rw[gdqA,zH hi]at this;exact Nat.le_of_not_lt this
 exact (qBL s (qlh h)).fini u hu hl
theorem qdV{x:Co}(h:CoOk x){s f d:Nat}(hs:s<x.sig.length)(hd:f+d<=x.col.length){p:Pc}(hp:p∈spk x s f d):zW p.t.text=true:=by
 obtain⟨k,h1,h2,h3,rfl⟩:=qlG.1 hp;obtain⟨a1,_⟩:=qsc h hs (show k<x.col.length by omega) h3;exact qvu (qsk a1)
theorem qpd{x:Co}{l:List Un}{d:List Dc}{s:Nat}(h:qi3 x l d s): ∀r∈rwA x l d s,zW (rwT r)=true:=by
 have hC: ∀k t,t<=x.col.length-> ∀r∈rwC x s k t,zW (rwT r)=true:=λk t ht r hr=>by
  unfold rwC at hr;obtain⟨g1,_⟩:=jF.1 hr
  by_cases hft:k<=t
  ·exact qdV h.co h.sl om g1
  ·rw[show t-k=0 by omega]at g1;cases g1
 have hU: ∀k,k<l.length-> ∀r∈rwU x l d s k,zW (rwT r)=true:=λk hk r hr=>by
  obtain⟨a1,a2,a3,a4,_⟩:=qaE h.us hk;unfold rwU at hr;split at hr
  ·obtain⟨g1,_⟩:=jF.1 hr;exact qdV h.co h.sl om g1
  ·rename_i hl;obtain⟨_,b2,_⟩:=qud h hl;obtain⟨g1,_⟩:=jF.1 hr;obtain⟨c1,c2,c3,c4,c5,c6⟩:=qaU b2;obtain⟨d1,d2,_⟩:=qg8 c4;unfold qqn at g1;split at g1
   ·exact qdV h.co d2 om g1
   ·split at g1
    ·rename_i hk2;obtain⟨e1,e2,_⟩:=qkx c6 hk2;obtain⟨t,ht,e⟩:=List.mem_map.1 g1
     have:rwT r=t.text:=by unfold rwT;rw[<-e]
     rw[this];exact qnz e1 e2 t ht
    ·cases g1
 have hL: ∀k,k<=l.length-> ∀r∈rwL x l d s k,zW (rwT r)=true:=by
  intro k
  induction k with
  |zero=>intro _ r hr;cases hr
  |succ k ih=>
   intro hk r hr;obtain⟨a1,a2,a3,a4,_⟩:=qaE h.us (show k<l.length by omega);rcases List.mem_append.1 (show r∈rwL x l d s k++(rwC x s (jj l k) (frN l k)++rwU x l d s k)from hr)with hr|hr
   ·exact ih om r hr
   ·rcases List.mem_append.1 hr with hr|hr
    ·exact hC _ _ om r hr
    ·exact hU k om r hr
 intro r hr;rcases List.mem_append.1 (show r∈rwL x l d s l.length++_ from hr)with hr|hr
 ·exact hL _ (nlr _) r hr
 ·exact hC _ _ (nlr _) r hr
theorem qpe{x:Co}{l:List Un}{d:List Dc}{s:Nat}(h:qi3 x l d s): ∀t∈qhe (bsW (rwA x l d s)),zW t=true:=by
 intro t ht;rw[qvv]at ht;obtain⟨r,hr,rfl⟩:=List.mem_map.1 ht;exact qpd h r hr
theorem qvw{x:Co}(hc:x.col.length<=1000000)(hs:x.sig.length<=1000000):qoa (qbw x):=by
 have hl:(qbw x).length<=x.col.length:=by
  have h1:=qdL (s:=0) (UG x) (d:= []) (by simp) (qbw x).length (nlr _);have h2:=qaV (UG x) (nlr (qbw x).length);omega
 have key: ∀i,qru ((qbw x).getD i default).rds:=λi=>by
  by_cases hi:i<(rnL x).length
  ·rw[qcj hi];obtain⟨h1,h2,_⟩:=qmI hi;exact qmB x (rnL x)[i].1 ((rnL x)[i].2-(rnL x)[i].1) om x.sig.length om
  ·rw[gdqA,List.getElem?_eq_none (by rw[qbP];omega)];have e0:(none.getD default:Un).rds= []:=rfl;exact⟨nzl _,λj=>by rw[e0,List.getD_nil];decide,λj=>by rw[e0,List.getD_nil];decide⟩
 exact⟨om,λi=>(key i).1,λi j=>(key i).2 j,λi j=>(key i).3 j⟩
theorem qi3.va{x:Co}{l:List Un}{d:List Dc}{s:Nat}(h:qi3 x l d s):vaE x l=0:=by
 unfold vaE;rw[ine (λhc=>hc h.ca),ine];unfold rgB;rw[h.us,h.cv];simp
end RC
end
section
open Go Go.Proofs AF
end
section
open Go Go.Proofs AF
end
section
open Go Go.Proofs AF HY LN
namespace RC
end RC
end
section
open Go Go.Proofs AF
end
section
open Go Go.Proofs AF HY LN
namespace RC
end RC
end
section
open Go Go.Proofs AF
end
section
open Go Go.Proofs AF HY LN
namespace RC
end RC
end
