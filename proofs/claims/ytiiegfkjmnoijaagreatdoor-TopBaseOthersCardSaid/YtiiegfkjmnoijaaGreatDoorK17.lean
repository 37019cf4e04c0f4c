import Derived.Test.YtiiegfkjmnoijaaGreatDoorK15
import Derived.Test.YtiiegfkjmnoijaaGreatDoorK16
import Derived.Test.YtiiegfkjmnoijaaGreatDoorK3
import Derived.Test.YtiiegfkjmnoijaaGreatDoorK5
import Derived.Test.YtiiegfkjmnoijaaGreatDoorK8
import Derived.Test.YtiiegfkjmnoijaaGreatDoorProg
import Derived.Test.YtiiegfkjmnoijaaGreatDoorK11
import Derived.Test.YtiiegfkjmnoijaaGreatDoorK13
import Derived.Test.YtiiegfkjmnoijaaGreatDoorK10
import Derived.Shelf.Strings.OnBuilder
import Derived.Test.YtiiegfkjmnoijaaGreatDoorK9
import Derived.Test.YtiiegfkjmnoijaaGreatDoorK12
import Derived.Shelf.Slices.In.SortNone
import Derived.Lib.ItoaLen
set_option linter.all false
set_option maxHeartbeats 256000000
set_option maxRecDepth 100000
section
open Go Go.Proofs AF HY LN
namespace RC
def yR(x:Co)(l:List Un)(d:List Dc)(n:Nat):List Int:=(List.range l.length).map λk=>wz x l d k n
theorem pe(x:Co)(l:List Un)(d:List Dc)(n:Nat):(yR x l d n).length=l.length:=by unfold yR;simp
theorem EM{x:Co}{l:List Un}{d:List Dc}{n k:Nat}(hk:k<l.length):(yR x l d n).getD k 0=wz x l d k n:=by
 unfold yR;rw[gdqA,List.getElem?_map,List.getElem?_range hk];rfl
theorem OM(x:Co)(l:List Un)(d:List Dc):yR x l d 0=List.replicate l.length (-1):=by
 unfold yR;refine List.ext_getElem (by simp) (λi h1 h2=> ?_);simp[wz]
theorem ZH{x:Co}{l:List Un}{d:List Dc}{n k:Nat}(hk:k<l.length)(he:jN x l (d.getD n default)=k):yR x l d (n+1)=(yR x l d n).set k (n:Int):=by
 unfold yR;refine List.ext_getElem (by simp) (λi h1 h2=> ?_);rw[List.getElem_set];simp only[List.getElem_map,List.getElem_range]
 by_cases g:k=i
 ·subst g;rw[ipo rfl];unfold wz;rw[ipo he]
 ·rw[ine g]
  conv=>lhs;unfold wz
  rw[ine (by rw[he];omega)]
theorem Pg{x:Co}{l:List Un}{d:List Dc}{i:Nat}(hi:i<d.length):(plG x l d d.length).getD i 0=jN x l (d.getD i default):=by
 unfold plG;rw[List.take_length,gdqA,List.getElem?_map,zG hi,gdqA,zG hi];rfl
structure EsS where
 k:Nat
 vb:Nat
 O7:AObj
 O8:AObj
 O9:AObj
 O10:AObj
 O11:AObj
 O12:AObj
def rwK(x:Co)(l:List Un)(d:List Dc)(s k:Nat):List Rw:=if k<=l.length then rwL x l d s k else rwA x l d s
def nxT(x:Co)(l:List Un)(k:Nat):Nat:=if k<=l.length then zx l k else x.col.length
theorem bR{v n:Nat}{L:List Wd}{ty:TypeId}{fz:Nat->Bool}{h:w6}{d:Nat}(hn:n=L.length):VLe (mo (some (zE v ty (jC L))) v 7 0 n (rei fz h (d+1))) (zV L):=by
 subst hn;unfold zE;split
 ·rename_i e
  have:L= []:=by
   cases L with
   |nil=>rfl
   |cons a r=>exact absurd e (by simp[jC,wdC])
  subst this;rw[slOf_emp,ipo rfl];exact qY
 ·rw[slOf_mem,ipo ⟨rfl,by rw[ig];omega⟩];refine VLe.sl_eq rfl (λi hi=> ?_);simp only[Nat.zero_add];rw[pY hi];rfl
theorem PU{x:Co}{l:List Un}{d:List Dc}{s:Nat}: ∀ {j k:Nat},k<=j->(rwL x l d s k).length<=(rwL x l d s j).length:=by
 intro j
 induction j with
 |zero=>
  intro k h;obtain rfl:k=0:=by omega
  exact nlr _
 |succ j ih=>
  intro k h
  by_cases e:k=j+1
  ·subst e;exact nlr _
  ·refine Nat.le_trans (ih (show k<=j by omega)) ?_
   conv=>rhs;unfold rwL
   rw[lap];omega
theorem JR{x:Co}{l:List Un}{d:List Dc}{s k:Nat}(h:k<=l.length):(rwL x l d s k).length<=(rwA x l d s).length:=by
 refine Nat.le_trans (PU h) ?_;unfold rwA;rw[lap];omega
theorem Ff{x:Co}{l:List Un}(ho:CoOk x)(hus:wJ x l=true){k:Nat}(hk:k<l.length){o:Dc}(hE:yb x l o=0): ∀p∈mn x l k o,PcF p:=by
 obtain⟨a1,a2,a3,a4,_⟩:=jO hus hk;obtain⟨p1,p2,p3,p4,p5,p6⟩:=w9 hE;intro p hp;unfold mn at hp;split at hp
 ·have:=(lW p4).2.1
  exact xz ho this om p hp
 ·split at hp
  ·rename_i g;obtain⟨r1,r2,r3,r4⟩:=Qv p6 g;exact BX r2 p hp
  ·cases hp
theorem Fg{x:Co}{l:List Un}{d:List Dc}{s:Nat}(ho:CoOk x)(hus:wJ x l=true)(hs:s<x.sig.length)(hpl: ∀i,i<d.length->yb x l (d.getD i default)=0){k:Nat}(hk:k<l.length): ∀r∈rwU x l d s k,PcF r.p:=by
 obtain⟨a1,a2,a3,a4,_⟩:=jO hus hk;intro r hr;unfold rwU at hr;split at hr
 ·exact xz ho hs om _ (jz.1 hr).1
 ·rename_i g
  have:=xQ x l d k d.length
  exact Ff ho hus hk (hpl _ om) _ (jz.1 hr).1
theorem nf{x:Co}{l:List Un}{d:List Dc}{s:Nat}(ho:CoOk x)(hus:wJ x l=true)(hs:s<x.sig.length)(hpl: ∀i,i<d.length->yb x l (d.getD i default)=0): ∀ {k:Nat},k<=l.length-> ∀r∈rwL x l d s k,PcF r.p:=by
 intro k
 induction k with
 |zero=>intro _ r hr;cases hr
 |succ k ih=>
  intro hk r hr;obtain⟨a1,a2,a3,a4,_⟩:=jO hus (show k<l.length by omega);have a5:=aW hus (show k<l.length by omega);unfold rwL at hr;rcases List.mem_append.1 hr with hr|hr
  ·exact ih om r hr
  ·rcases List.mem_append.1 hr with hr|hr
   ·exact xz ho hs om _ (jz.1 hr).1
   ·exact Fg ho hus hs hpl om r hr
theorem qf0{hh:w6}{j k v w:Nat}(n:Nat)(a:Int)(cs:w7)(hj:qv j hh=some (.mem v 3 (.int .i64 a::cs)))(hk:qv k hh=some (.emp w))(h0:0<n)(hl:n<=1000000000):
  ACalls Tryz.prog 79 [.osl j v 1 0 1,.int .i64 (n:Int)] hh (.osl k (w+1) 1 0 n) (qu k (qu j hh (.emp (v+1))) (.mem (w+1) 3 (qT (List.replicate n a)))):=by
 have hne:j≠k:=λe=>by subst e;rw[hj]at hk;cases hk
 have hs:qK hh j=true:=by unfold qK;rw[hj]
 have e1:xu [j] hh=qu j hh (.emp (v+1)):=by show qu j hh (.emp (qn (qv j hh)+1))=_;rw[hj];rfl
 have hk1:qv k (qu j hh (.emp (v+1)))=some (.emp w):=by rw[qX (λe=>hne e.symm)];exact hk
 refine ACalls.frzd [j] (by show (qK hh j&&true)=true;rw[hs];rfl) ?_;rw[e1];have h1:=qf1 a n (qu j hh (.emp (v+1))) k (by unfold qK;rw[hk1]) h0 hl;rw[hk1]at h1;refine h1.le ⟨?_,qi,trivial⟩ (qi);have hc:=qL hj;have e: [j].contains j=true:=by simp
 simp only[go_sem,e,if_true,hc];rw[hj,slOf_mem,ipo ⟨rfl,by simp⟩];refine VLe.sl_eq rfl (λi hi=> ?_);obtain rfl:i=0:=by omega
 rfl
theorem qfn(x:Co)(l:List Un)(d:List Dc)(s:Int)(h:w6)(hz:yx x)(hu:bo l)(hp:kt SG h)(hg:z7 h frmN frmC)(hl0:l≠ [])(hd:d.length<=1000000)(ht: ∀o∈d,o.txt.length<=1000)(hN0:vaE x l=0->(rwA x l d s.toNat).length<=1000000000):
  ACalls Tryz.prog 25 [.agg (coC x),zf l,jG d,.int .i64 s] h (.tup [zV (esR x l d s),.int .i64 (esE x l d s)]) h:=by
 have c1:=λl'=>WA x l (h++l') hz hu (hp.app l')
 have zu: ∀g l,valL g .len [zf l]= .int .i64 l.length:=λ_ _=>rfl
 have zv: ∀g l,okL g .len [zf l]=True:=λ_ _=>eqt trivial
 have zu1: ∀g l,valL g .len [strs l]= .int .i64 l.length:=λ_ _=>rfl
 have zv1: ∀g l,okL g .len [strs l]=True:=λ_ _=>eqt trivial
 have hE:esE x l d s=(if vaE x l≠0 then vaE x l else if s<0∨(x.sig.length:Int)<=s then 2 else if az x l d≠0 then az x l d else if 1024<(rwA x l d s.toNat).length then 4 else 0):=rfl;unfold esR
 by_cases g:vaE x l=0
 case neg=>
  have k1:(vaE x l=0)=False:=eqf g;rw[ipo g]at hE;rw[hE,ine g];unfold coC at c1;refine acO yj ?_;simp (disch:=omega) only[mi,coC,go_sem]
  repeat' first|(refine cA (c1 _) flk ?_;simp (disch:=omega) only[k1,go_sem])|(apply qb;exact rvk;simp only[go_sem])
  exact VLe.tup ⟨qY,qi,trivial⟩
 rw[ine (by simpa using g)]at hE;have hN:=hN0 g;simp only[g]at c1;obtain⟨hca,hus,hcv⟩:=dk g;have ho:=kh hca
 by_cases g2:s<0
 ·have k2:(s<0)=True:=eqt g2;rw[ipo (.inl g2)]at hE;rw[hE,ine (by decide)];unfold coC at c1;refine acO yj ?_;simp (disch:=omega) only[mi,coC,go_sem]
  repeat' first|(refine cA (c1 _) flk ?_;simp (disch:=omega) only[k2,go_sem])|(apply qb;exact rvk;simp only[go_sem])
  exact VLe.tup ⟨qY,qi,trivial⟩
 have k2:(s<0)=False:=eqf g2
 by_cases g3:(x.sig.length:Int)<=s
 ·have k3:((x.sig.length:Int)<=s)=True:=eqt g3;rw[ipo (.inr g3)]at hE;rw[hE,ine (by decide)];unfold coC at c1;refine acO yj ?_;simp (disch:=omega) only[mi,coC,go_sem]
  repeat' first|(refine cA (c1 _) flk ?_;simp (disch:=omega) only[k2,k3,zu1,zv1,go_sem])|(apply qb;exact rvk;simp only[go_sem])
  exact VLe.tup ⟨qY,qi,trivial⟩
 have k3:((x.sig.length:Int)<=s)=False:=eqf g3;rw[ine (λe=>e.elim g2 g3)]at hE;have c2:=λl'=>qdl x l d (h++l') hz hu (hp.app l') hg.app hca hd ht
 unfold Pj at c2
 by_cases g4:az x l d=0
 case neg=>
  have k4:(az x l d=0)=False:=eqf g4;simp only[ine g4]at c2;rw[ipo g4]at hE;rw[hE,ine g4];unfold coC at c1 c2;refine acO yj ?_;simp (disch:=omega) only[mi,coC,go_sem]
  repeat' first|((first|refine cA (c1 _) ?_ ?_|refine cA (c2 _) ?_ ?_);exact flk;simp (disch:=omega) only[k2,k3,k4,zu1,zv1,go_sem])|(apply qb;exact rvk;simp only[go_sem])|with_reducible apply aiA|exact clz|fail
  exact VLe.tup ⟨qY,qi,trivial⟩
 rw[ine (by simpa using g4)]at hE;simp only[g4,if_true]at c2;rw[hE];unfold coC at c1 c2;refine acO yj ?_;simp (disch:=omega) only[mi,coC,go_sem]
 repeat' first|((first|refine cA (c1 _) ?_ ?_|refine cA (c2 _) ?_ ?_);exact flk;simp (disch:=omega) only[k2,k3,zu1,zv1,zu,zv,go_sem])|with_reducible apply aiA|exact clz|fail
 have hlp:0<l.length:=List.length_pos_iff.2 hl0;refine qE (qf0 (j:=h.length+2) (k:=h.length+13) (w:=0) l.length (-1) (List.drop 1 (zU [.int .i64 0] 1)) ?j1 ?j2 hlp hu.n) (by exact flk) ?_
 case j1=>simp only[go_sem]
 case j2=>simp only[go_sem]
 have zi: ∀g l,valL g .len [qz l]= .int .i64 l.length:=λ_ _=>rfl
 have zj: ∀g l,okL g .len [qz l]=True:=λ_ _=>eqt trivial
 have ePL:(plG x l d d.length).length=d.length:=by unfold plG;rw[List.length_map,List.take_length]
 simp (disch:=omega) only[zi,zj,ePL,go_sem];rw[<-OM x l d];have hpl: ∀i,i<d.length->yb x l (d.getD i default)=0:=by
  have:=g4
  unfold az at this;split at this
  ·cases this
  ·intro i hi;exact jE.1 this i hi
 refine qp (T:=λi:Nat=>zw 154 [(1,zf l),(2,jG d),(3,.int .i64 s),(4,.op h.length 1 0),(13,.osl (h.length+13) 1 1 0 l.length),(55,.sl d.length λi=> [.int .i64 ((plG x l d d.length).getD i 0)]),(56,.int .i64 d.length),(57,.int .i64 i)])
  (H:=λi=>h++ [.mem 1 26 [.str x.sec,strs x.sig,qm x.tok,qo x.col],.emp 1,.emp 2,.emp 0,.emp 0,.emp 0,.emp 0,.emp 0,.emp 0,.emp 0,.emp 0,.emp 0,.emp 0,.mem 1 3 (qT (yR x l d i)),.emp 0,.emp 0])
  (inv:=λi=>i<=d.length) (m:=λi=>d.length-i) 0 (nzl _) (Wk.temps ?_) ?_
 ·(simp only[go_sem,qg,qc,qa,qf];try (repeat' first|(with_reducible apply aiA)|(apply qe;omega)|(apply qd;rfl)|exact qi))
  have eI:qz (plG x l d d.length)= .sl d.length λi=> [.int .i64 ((plG x l d d.length).getD i 0)]:=by unfold qz;rw[ePL]
  rw[eI];exact qi
 rintro i i1 K hK;have hll:=pe x l d i;have hlc:=jy (yR x l d i)
 by_cases hi:i<d.length
 ·have q1:((i:Int)<d.length)=True:=xv;have q2:(0<=(i:Int))=True:=xv;have e0:=hpl i hi;obtain⟨_,_,_,_,p5,_⟩:=w9 e0;obtain⟨k,hk⟩: ∃k:Nat,jN x l (d.getD i default)=k:=⟨(jN x l (d.getD i default)).toNat,om⟩
  have hkl:k<l.length:=by
   have:=(yk l (wp x (zM x (d.getD i default).sig).toNat (d.getD i default).tok)).2
   have h2:fnU l (wp x (zM x (d.getD i default).sig).toNat (d.getD i default).tok)=k:=hk;omega
  have q3:((k:Int)<l.length)=True:=xv;have q4:(0<=(k:Int))=True:=xv;have eA:=Pg (x:=x) (l:=l) hi;rw[hk]at eA;have hst:=ZH (n:=i) hkl hk;simp (disch:=omega) only[q1,q2,q3,q4,eA,hlc,hll,go_sem]
  repeat' first|with_reducible apply aiA|exact clz|fail
  have eB:List.take k (qT (yR x l d i))++ [AV.int .i64 (i:Int)]++List.drop (k+1) (qT (yR x l d i))=qT (yR x l d (i+1)):=by
   rw[hst];unfold qT;rw[List.set_eq_take_append_cons_drop,ipo (by rw[hll];exact hkl)];simp[List.map_append,List.map_take,List.map_drop]
  rw[eB];refine hK _ _ (i+1) hi om (Wk.temps ?_)
  (simp only[go_sem,qg,qc,qa,qf];try exact wr)
 ·have q1:((i:Int)<d.length)=False:=xD;obtain rfl:i=d.length:=by omega
  simp (disch:=omega) only[q1,go_sem];refine⟨_,_,Wk.ownNil (j:=h.length+3) (i:=0) (k:=h.length+15) (v:=1) (ty:=29) (cs:= [.nl]) (ve:=0) (sz:=7) ?m1 rfl ?m2,?_⟩
  case m1=>simp only[go_sem]
  case m2=>simp only[go_sem]
  have s1:=λh=>KA h l
  have eP:=bU l;simp (disch:=omega) only[List.set_cons_zero,go_sem];have hun:=hu.n;have bne5:(h.length+14 !=h.length+5)=true:=by simp
  have zc: ∀g l,valL g .len [qo l]= .int .i64 l.length:=λ_ _=>rfl
  have zd: ∀g l,okL g .len [qo l]=True:=λ_ _=>eqt trivial
  refine jL ?T ?H ?h1 ?h2
  case h1=>
   simp (disch:=omega) only[List.set_cons_zero,zc,zd,go_sem]
   repeat' first|(with_reducible apply aiA)|(refine qE (qfi l _ (h.length+14) (by simp only[go_sem]) hl0 hu.n) (by exact flk) ?_;simp (disch:=omega) only[List.set_cons_zero,eP,zc,zd,go_sem])
   all_goals first
    |omega
    |rfl
    |exact bne5
  case h2=>
  simp (disch:=omega) only[go_sem];obtain⟨S,hS⟩: ∃S:Nat,s=S:=⟨s.toNat,om⟩
  subst hS;rw[itn]at hN ⊢;have hSl:S<x.sig.length:=by omega
  have eTk:List.take (l.length*3) (xZ l)=xZ l:=ltl om;rw[eTk];obtain⟨MC,hMC⟩:=wD (xZ l++ [AV.int .i64 x.col.length,.int .i64 x.col.length,.nl])
  have hMl:MC.length=(l.length+1)*3:=by rw[hMC];simp[eP];omega
  have eM1: ∀k,k<l.length->List.take 3 (List.drop (k*3) MC)=unC (l.getD k default):=λk hk=>by
   rw[hMC,List.drop_append_of_le_length om,List.take_append_of_le_length (by rw[List.length_drop];omega)];exact pU hk
  have eM2:List.take 3 (List.drop (l.length*3) MC)= [AV.int .i64 x.col.length,.int .i64 x.col.length,.nl]:=by
   rw[hMC,List.drop_append,List.drop_eq_nil_of_le om,lna,eP,Nat.sub_self];rfl
  rw[<-hMC];obtain⟨O5,hO5⟩:=wD (AObj.mem 1 64 (AV.int .i64 x.col.length:: .int .i64 x.col.length:: .nl::List.drop 3 (zU [.int .i64 0,.int .i64 0,.nl] 1)))
  rw[<-hO5];obtain⟨LST,hLST⟩: ∃L,L=AObj.mem 1 3 (qT (yR x l d d.length)):=⟨_,rfl⟩
  have hll:=pe x l d d.length;have hlc:=jy (yR x l d d.length);obtain⟨X0,hX0⟩:=wD (AObj.mem 1 26 [.str x.sec,strs x.sig,qm x.tok,qo x.col])
  have lX0: ∀n,lowO n X0:=by
   intro n;rw[hX0];intro c hc;simp at hc;rcases hc with rfl|rfl|rfl|rfl<;>rfl
  refine qp (T:=λi:EsS=>zw 154 [(1,zf l),(2,jG d),(3,.int .i64 (S:Int)),(4,.op h.length 1 0),(13,.osl (h.length+13) 1 1 0 l.length),(16,.op (h.length+3) 1 0),(17,.op (h.length+4) 1 0),(18,.int .i64 (nxT x l i.k:Int)),(78,.osl (h.length+14) 2 3 0 (l.length+1)),(79,.int .i64 ((l.length+1:Nat):Int)),(80,.int .i64 i.k)])
   (H:=λi=>h++ [.mem 1 26 [.str x.sec,strs x.sig,qm x.tok,qo x.col],.emp 1,.emp 2,.mem 1 29 [.osl (h.length+15) i.vb 7 0 (rwK x l d S i.k).length],.mem 1 121 [.fn (.func 80) [] [.op (h.length+3) 1 0]],O5,.emp 0,i.O7,i.O8,i.O9,i.O10,i.O11,i.O12,.mem 1 3 (qT (yR x l d d.length)),.mem 2 64 MC,zE i.vb 36 (jC (bsW (rwK x l d S i.k)))])
   (inv:=λi=>i.k<=l.length+1∧ ∀O∈ [i.O7,i.O8,i.O9,i.O10,i.O11,i.O12],qK [O] 0=true∧ ∀n,lowO n O) (m:=λi=>l.length+1-i.k) ⟨0,0,.emp 0,.emp 0,.emp 0,.emp 0,.emp 0,.emp 0⟩ ⟨nzl _,λO hO=>by
    simp at hO;subst hO;exact⟨rfl,λ_=>trivial⟩⟩ (Wk.temps ?_) ?_
  ·(simp only[go_sem,qg,qc,qa,qf];try (repeat' first|(with_reducible apply aiA)|(apply qe;omega)|(apply qd;rfl)|exact qi))
   done
  rintro⟨k,vb,O7,O8,O9,O10,O11,O12⟩ ⟨i1,i2⟩ K hK;simp only at i1 i2 hK;obtain⟨s7,l7⟩:=i2 O7 (by simp);obtain⟨s8,l8⟩:=i2 O8 (by simp);obtain⟨s9,l9⟩:=i2 O9 (by simp);obtain⟨s10,l10⟩:=i2 O10 (by simp);obtain⟨s11,l11⟩:=i2 O11 (by simp);obtain⟨s12,l12⟩:=i2 O12 (by simp);have s7': ∀m,qK (O7::m) 0=true:=λ_=>s7
  have s8': ∀m,qK (O8::m) 0=true:=λ_=>s8
  by_cases hk:k<=l.length
  case neg=>
   have q1:((k:Int)<((l.length+1:Nat):Int))=False:=xD;have eR:rwK x l d S k=rwA x l d S:=by unfold rwK;rw[ine hk]
   rw[eR]
   by_cases g5:1024<(rwA x l d S).length
   ·have q5:((1024:Int)<(rwA x l d S).length)=True:=xv;simp only[ipo g5];simp (disch:=omega) only[q1,q5,go_sem]
    repeat' first|(apply qb;exact rvk;simp only[go_sem])|with_reducible apply aiA|exact clz|fail
    exact VLe.tup ⟨qY,qi,trivial⟩
   ·have q5:((1024:Int)<(rwA x l d S).length)=False:=xD;simp only[ine g5];simp (disch:=omega) only[q1,q5,go_sem]
    repeat' first|(apply qb;exact rvk;simp only[go_sem])|with_reducible apply aiA|exact clz|fail
    exact VLe.tup ⟨bR (jD _).symm,qi,trivial⟩
  have q1:((k:Int)<((l.length+1:Nat):Int))=True:=xv;have q2:(0<=(k:Int))=True:=xv;have q3:(k*3+3<=MC.length)=True:=xv;have eR:rwK x l d S k=rwL x l d S k:=by unfold rwK;rw[ipo hk]
  have eN:nxT x l k=zx l k:=by unfold nxT;rw[ipo hk]
  rw[eR,eN];obtain⟨f,t',RV,eM,a5,a6,lRV,hA,hB⟩: ∃(f t':Nat) (RV:AV),List.take 3 (List.drop (k*3) MC)= [.int .i64 (f:Int),.int .i64 (t':Int),RV]∧zx l k<=f∧f<=x.col.length∧(∀n,ze n RV=true)∧(k<l.length->f=frN l k∧t'=toN l k∧RV=j6 (l.getD k default).rds)∧(k=l.length->f=x.col.length∧t'=x.col.length):=by
   by_cases hkl:k<l.length
   ·obtain⟨a1,a2,a3,a4,_⟩:=jO hus hkl;have eM:=eM1 k hkl;unfold unC at eM;rw[a1,a2]at eM;exact⟨frN l k,toN l k,_,eM,aW hus hkl,om,λ_=>rfl,λ_=>⟨rfl,rfl,rfl⟩,λe=>by omega⟩
   ·obtain rfl:k=l.length:=by omega
    exact⟨x.col.length,x.col.length,.nl,eM2,xa hus (nlr _),nlr _,λ_=>rfl,λe=>by omega,λ_=>⟨rfl,rfl⟩⟩
  have c3:=λh=>Rf x (zx l k) f S h
  have hit:=itS x S (zx l k) f hz ho hSl a6 a5;have hpF:=xz ho hSl (f:=zx l k) (d:=f-zx l k) om;obtain⟨ps,hps⟩:=wD (spk x S (zx l k) (f-zx l k))
  have hxl:(spX x S (zx l k) (f-zx l k))=ps.map λp=> [.agg (pcC p)]:=by unfold spX;rw[hps]
  rw[hxl]at hit;rw[<-hps]at hpF;unfold coC at c3 hit;simp (disch:=omega) only[q1,q2,q3,eM,s7',s8',go_sem]
  repeat' first|(refine cA (c3 _) flk ?_;simp (disch:=omega) only[go_sem])
  obtain⟨L0,hL0⟩:=wD (rwL x l d S k)
  have hLF: ∀r∈L0,PcF r.p:=by rw[hL0];exact nf ho hus hSl hpl hk
  have hLn:(L0++rwM ps (-1) (-1)).length<=1000000000:=by
   refine Nat.le_trans ?_ hN
   by_cases hkl:k<l.length
   ·obtain⟨b1,_⟩:=hA hkl;refine Nat.le_trans ?_ (JR (show k+1<=l.length by omega));rw[hL0,hps,b1]
    conv=>rhs;unfold rwL
    rw[lap,lap,lap];show _<=_+((rwM _ _ _).length+_);omega
   ·obtain⟨b1,_⟩:=hB om;have hke:k=l.length:=by omega
    rw[hL0,hps,b1,hke];exact nlr _
  rw[<-hL0];obtain⟨P7,hP7⟩:=wD (AObj.mem (qn (some O7)+1) 3 [.int .i64 (k:Int)])
  obtain⟨P8,hP8⟩:=wD (AObj.mem (qn (some O8)+1) 64 [.int .i64 (f:Int),.int .i64 (t':Int),RV])
  have hP7l:qK [P7] 0=true∧ ∀n,lowO n P7:=by
   rw[hP7];refine⟨rfl,λn c hc=> ?_⟩;rw[List.mem_singleton]at hc;subst hc;rfl
  have hP8l:qK [P8] 0=true∧ ∀n,lowO n P8:=by
   rw[hP8];refine⟨rfl,λn c hc=> ?_⟩;simp only[List.mem_cons,List.not_mem_nil,or_false]at hc;rcases hc with rfl|rfl|rfl
   ·rfl
   ·rfl
   ·exact lRV n
  have cP7: ∀m,cellsOf (P7::m) 0 (qn (some O7)+1)=some [.int .i64 (k:Int)]:=λm=>by rw[hP7];simp only[go_sem]
  rw[<-hP7,<-hP8];have lP: ∀L:List Rw,∀v n,lowO n (zE v 36 (jC (bsW L))):=λL v n=>ju (bW _ n)
  have hLow: ∀(L M:List Rw) (v w:Nat) O A,(∀n,lowO n A)->LowI (h++ [.mem 1 26 [.str x.sec,strs x.sig,qm x.tok,qo x.col],.emp 1,.emp 2,.mem 1 29 [.osl (h.length+15) w 7 0 M.length],.mem 1 121 [.fn (.func 80) [] [.op (h.length+3) 1 0]],O5,.emp 0,P7,P8,O,O10,O11,O12,.mem 1 3 (qT (yR x l d d.length)),.mem 2 64 MC,zE w 36 (jC (bsW M))])
    (h++ [.mem 1 26 [.str x.sec,strs x.sig,qm x.tok,qo x.col],.emp 1,.emp 2,.mem 1 29 [.osl (h.length+15) v 7 0 L.length],.mem 1 121 [.fn (.func 80) [] [.op (h.length+3) 1 0]],O5,.emp 0,P7,P8,A,O10,O11,O12,.mem 1 3 (qT (yR x l d d.length)),.mem 2 64 MC,zE v 36 (jC (bsW L))]):=λL M v w O A lA=>by
   refine⟨by simp,λo ho=> ?_⟩;rcases List.mem_append.1 ho with h1|h1
   ·exact .inl (List.mem_append_left _ h1)
   ·simp only[List.mem_cons,List.not_mem_nil,or_false]at h1;rcases h1 with rfl|rfl|rfl|rfl|rfl|rfl|rfl|rfl|rfl|rfl|rfl|rfl|rfl|rfl|rfl|rfl
    ·left;simp
    ·left;simp
    ·left;simp
    ·right;refine⟨λc hc=> ?_,λc hc=> ?_⟩<;>
     ·rw[List.mem_singleton]at hc;subst hc;simp[ze]
      try omega
    ·left;simp
    ·left;simp
    ·left;simp
    ·left;simp
    ·left;simp
    ·right;exact⟨lA _,lA _⟩
    ·left;simp
    ·left;simp
    ·left;simp
    ·left;simp
    ·left;simp
    ·right;exact⟨lP _ _ _,lP _ _ _⟩
  refine zJ hit (λa ha=> ?_)
   (S:=λi hh=> ∃A,qK [A] 0=true∧(∀n,lowO n A)∧hh=h++ [.mem 1 26 [.str x.sec,strs x.sig,qm x.tok,qo x.col],.emp 1,.emp 2,.mem 1 29 [.osl (h.length+15) (vb+i) 7 0 (L0++rwM (ps.take i) (-1) (-1)).length],.mem 1 121 [.fn (.func 80) [] [.op (h.length+3) 1 0]],O5,.emp 0,P7,P8,A,O10,O11,O12,.mem 1 3 (qT (yR x l d d.length)),.mem 2 64 MC,zE (vb+i) 36 (jC (bsW (L0++rwM (ps.take i) (-1) (-1))))]) (E:=λ_ _=>False) ?_ ?_ ?_ ?_ ?_ ?_ ?_
  ·obtain⟨c,_,rfl⟩:=List.mem_map.1 ha;rfl
  ·rintro i hh ⟨A,_,lA,rfl⟩;exact hLow _ _ _ _ _ _ lA
  ·intro s hh hf;exact hf.elim
  ·exact⟨O9,s9,l9,by simp[rwM]⟩
  ·simp[ze,ze.lowVs]
   repeat' apply aiA
   all_goals first|rfl|omega|exact lRV _
  ·rintro i hh tl LI TS hi ⟨A,sA,lA,rfl⟩ hlen K1 K2 hK1 hN1 hR1 hX1;have hi':i<ps.length:=by rw[List.length_map]at hi;exact hi
   rw[List.getElem_map];have sA': ∀m,qK (A::m) 0=true:=λ_=>sA
   have hS:L0++rwM (ps.take (i+1)) (-1) (-1)=(L0++rwM (ps.take i) (-1) (-1))++ [⟨ps.getD i default,-1,-1⟩]:=by
    unfold rwM;rw[List.take_add_one,zG hi',List.map_append,gdqA,zG hi',List.append_assoc];rfl
   have eG:ps[i]=ps.getD i default:=by rw[gdqA,zG hi'];rfl
   rw[eG];have hpm:ps.getD i default∈ps:=zh hi';obtain⟨p,hp'⟩:=wD (ps.getD i default)
   rw[<-hp']at hS hpm ⊢;obtain⟨M,hM⟩:=wD (L0++rwM (ps.take i) (-1) (-1))
   have hMF: ∀r∈M,PcF r.p:=λr hr=>by
    rw[hM]at hr;rcases List.mem_append.1 hr with hr|hr
    ·exact hLF r hr
    ·exact hpF _ (List.mem_of_mem_take (jz.1 hr).1)
   have hMn:M.length<=1000000000:=by
    rw[hM,lap,jF,List.length_take];rw[lap,jF]at hLn;omega
   rw[<-hM]at hS ⊢;simp only[kA,List.append_assoc,lca,lna];simp (disch:=omega) only[sA',pcC,tkC,go_sem];refine hK1 _ _ (h++ [.mem 1 26 [.str x.sec,strs x.sig,qm x.tok,qo x.col],.emp 1,.emp 2,.mem 1 29 [.osl (h.length+15) (vb+i) 7 0 M.length],.mem 1 121 [.fn (.func 80) [] [.op (h.length+3) 1 0]],O5,.emp 0,P7,P8,(.mem (qn (some A)+1) 120 (pcC p)),O10,O11,O12,.mem 1 3 (qT (yR x l d d.length)),.mem 2 64 MC,zE (vb+i) 36 (jC (bsW M))]) ?_ ?_ ?_
   ·simp[pcC,tkC]
   ·simp
   ·simp only[List.append_assoc,lca,lna];simp (disch:=omega) only[pcC,tkC,go_sem]
    repeat' first|with_reducible apply aiA|exact clz|fail
    refine kQ (Ht (a:=h.length+3) (b:=h.length+15) (c:=h.length) (va:=1) (vb:=vb+i) (Z:= .mem 1 26 [.str x.sec,strs x.sig,qm x.tok,qo x.col]) ⟨by simp,by simp,by simp,om,om,om⟩ M p (-1) (-1) (by simp only[go_sem]) (by simp only[go_sem]) (by simp only[go_sem]) (by rw[<-hX0];exact lX0) (hpF p hpm) hMn hMF) ?_;simp (disch:=omega) only[go_sem];refine hN1 _ _ (h++ [.mem 1 26 [.str x.sec,strs x.sig,qm x.tok,qo x.col],.emp 1,.emp 2,.mem 1 29 [.osl (h.length+15) (vb+(i+1)) 7 0 (M++ [(⟨p,-1,-1⟩:Rw)]).length],.mem 1 121 [.fn (.func 80) [] [.op (h.length+3) 1 0]],O5,.emp 0,P7,P8,(.mem (qn (some A)+1) 120 (pcC p)),O10,O11,O12,.mem 1 3 (qT (yR x l d d.length)),.mem 2 64 MC,zE (vb+(i+1)) 36 (jC (bsW (M++ [(⟨p,-1,-1⟩:Rw)])))]) ?_ ?_ ⟨_,rfl,?_,by rw[hS]⟩
    ·simp[pcC,tkC,Nat.add_assoc]
    ·simp
    ·intro n c hc;simp[pcC,tkC]at hc;rcases hc with rfl|rfl|rfl|rfl|rfl|rfl|rfl<;>rfl
  ·rintro hh ⟨A,sA,lA,rfl⟩;rw[List.length_map,List.take_length];obtain⟨L1,hL1⟩:=wD (L0++rwM ps (-1) (-1))
   rw[<-hL1]
   by_cases hkl:k<l.length
   case neg=>
    have hke:k=l.length:=by omega
    obtain⟨b1,b2⟩:=hB hke;have q4:((k:Int)=l.length)=True:=xv;rw[hP7,hP8];simp (disch:=omega) only[q4,zu,zv,go_sem]
    repeat' first|with_reducible apply aiA|exact clz|fail
    rw[<-hP7,<-hP8];have e1:rwK x l d S (k+1)=L1:=by
     unfold rwK;rw[ine om,hL1,hL0,hps,b1,hke];rfl
    have e2:nxT x l (k+1)=t':=by unfold nxT;rw[ine om,b2]
    refine hK _ _ ⟨k+1,vb+ps.length,P7,P8,A,O10,O11,O12⟩ ⟨by simp only;omega,λO hO=> ?_⟩ (by simp only;omega) ?_
    ·simp only[List.mem_cons,List.not_mem_nil,or_false]at hO;rcases hO with rfl|rfl|rfl|rfl|rfl|rfl
     ·exact hP7l
     ·exact hP8l
     ·exact⟨sA,lA⟩
     ·exact⟨s10,l10⟩
     ·exact⟨s11,l11⟩
     ·exact⟨s12,l12⟩
    ·simp only[e1,e2];refine Wk.temps ?_
     (simp only[go_sem,qg,qc,qa,qf];try exact wr)
   obtain⟨b1,b2,b3⟩:=hA hkl;have q4:((k:Int)=l.length)=False:=xD;have q5:((k:Int)<l.length)=True:=xv;have q6:(k<l.length)=True:=eqt hkl;have eLs:(qT (yR x l d d.length))[k]? =some (.int .i64 (wz x l d k d.length)):=by
    unfold qT
    have:=EM (x:=x) (d:=d) (n:=d.length) hkl
    rw[List.getElem?_map,zG (by rw[hll];exact hkl)];rw[gdqA,zG (by rw[hll];exact hkl)]at this;rw[<-this];rfl
   obtain⟨D,hD⟩:=wD (wz x l d k d.length)
   rw[<-hD]at eLs;rw[hP7,hP8]
   by_cases g6:D<0
   ·have q7:(D<0)=True:=eqt g6;have c4:=λh=>Rf x f t' S h
    unfold coC at c4;simp (disch:=omega) only[q2,q4,q5,q6,q7,hlc,hll,eLs,zu,zv,go_sem]
    repeat' first|(refine cA (c4 _) flk ?_;simp (disch:=omega) only[go_sem])|with_reducible apply aiA|exact clz|fail
    rw[<-hP7,<-hP8];obtain⟨A0,hA0⟩:=wD A
    rw[<-hA0];obtain⟨vc,hvc⟩:=wD (vb+ps.length)
    rw[<-hvc];obtain⟨_,_,a3,a4,_⟩:=jO hus hkl;have hit2:=itS x S f t' hz ho hSl om om;have hpF2:=xz ho hSl (f:=f) (d:=t'-f) om;obtain⟨qs,hqs⟩:=wD (spk x S f (t'-f))
    have hxl2:(spX x S f (t'-f))=qs.map λp=> [.agg (pcC p)]:=by unfold spX;rw[hqs]
    rw[hxl2]at hit2;rw[<-hqs]at hpF2;unfold coC at hit2;have eR1:rwK x l d S (k+1)=L1++rwM qs (k:Int) (-1):=by
     unfold rwK;rw[ipo om];show rwL x l d S k++(rwC x S (zx l k) (frN l k)++rwU x l d S k)=_;unfold rwU;rw[ipo (by rw[<-hD];exact g6),hL1,hL0,hps,hqs,b1,b2,List.append_assoc];rfl
    have hLF2: ∀r∈L1,PcF r.p:=λr hr=>by
     rw[hL1]at hr;rcases List.mem_append.1 hr with hr|hr
     ·exact hLF r hr
     ·exact hpF _ (jz.1 hr).1
    have hLn2:(L1++rwM qs (k:Int) (-1)).length<=1000000000:=by
     rw[<-eR1];unfold rwK;rw[ipo om];exact Nat.le_trans (JR (show k+1<=l.length by omega)) hN
    have hLow2: ∀(L M:List Rw) (v w:Nat) O A,(∀n,lowO n A)->LowI (h++ [.mem 1 26 [.str x.sec,strs x.sig,qm x.tok,qo x.col],.emp 1,.emp 2,.mem 1 29 [.osl (h.length+15) w 7 0 M.length],.mem 1 121 [.fn (.func 80) [] [.op (h.length+3) 1 0]],O5,.emp 0,P7,P8,A0,O,O11,O12,.mem 1 3 (qT (yR x l d d.length)),.mem 2 64 MC,zE w 36 (jC (bsW M))])
      (h++ [.mem 1 26 [.str x.sec,strs x.sig,qm x.tok,qo x.col],.emp 1,.emp 2,.mem 1 29 [.osl (h.length+15) v 7 0 L.length],.mem 1 121 [.fn (.func 80) [] [.op (h.length+3) 1 0]],O5,.emp 0,P7,P8,A0,A,O11,O12,.mem 1 3 (qT (yR x l d d.length)),.mem 2 64 MC,zE v 36 (jC (bsW L))]):=λL M v w O A lA=>by
     refine⟨by simp,λo ho=> ?_⟩;rcases List.mem_append.1 ho with h1|h1
     ·exact .inl (List.mem_append_left _ h1)
     ·simp only[List.mem_cons,List.not_mem_nil,or_false]at h1;rcases h1 with rfl|rfl|rfl|rfl|rfl|rfl|rfl|rfl|rfl|rfl|rfl|rfl|rfl|rfl|rfl|rfl
      ·left;simp
      ·left;simp
      ·left;simp
      ·right;refine⟨λc hc=> ?_,λc hc=> ?_⟩<;>
       ·rw[List.mem_singleton]at hc;subst hc;simp[ze]
        try omega
      ·left;simp
      ·left;simp
      ·left;simp
      ·left;simp
      ·left;simp
      ·left;simp
      ·right;exact⟨lA _,lA _⟩
      ·left;simp
      ·left;simp
      ·left;simp
      ·left;simp
      ·right;exact⟨lP _ _ _,lP _ _ _⟩
    refine zJ hit2 (λa ha=> ?_)
     (S:=λi hh=> ∃A,qK [A] 0=true∧(∀n,lowO n A)∧hh=h++ [.mem 1 26 [.str x.sec,strs x.sig,qm x.tok,qo x.col],.emp 1,.emp 2,.mem 1 29 [.osl (h.length+15) (vc+i) 7 0 (L1++rwM (qs.take i) (k:Int) (-1)).length],.mem 1 121 [.fn (.func 80) [] [.op (h.length+3) 1 0]],O5,.emp 0,P7,P8,A0,A,O11,O12,.mem 1 3 (qT (yR x l d d.length)),.mem 2 64 MC,zE (vc+i) 36 (jC (bsW (L1++rwM (qs.take i) (k:Int) (-1))))]) (E:=λ_ _=>False) ?_ ?_ ?_ ?_ ?_ ?_ ?_
    ·obtain⟨c,_,rfl⟩:=List.mem_map.1 ha;rfl
    ·rintro i hh ⟨A,_,lA,rfl⟩;exact hLow2 _ _ _ _ _ _ lA
    ·intro s hh hf;exact hf.elim
    ·exact⟨O10,s10,l10,by simp[rwM]⟩
    ·simp[ze,ze.lowVs]
     repeat' apply aiA
     all_goals first|rfl|omega|exact lRV _
    ·rintro i hh tl LI TS hi ⟨A,sA,lA,rfl⟩ hlen K1 K2 hK1 hN1 hR1 hX1;have hi':i<qs.length:=by rw[List.length_map]at hi;exact hi
     rw[List.getElem_map];have sA': ∀m,qK (A::m) 0=true:=λ_=>sA
     have hS:L1++rwM (qs.take (i+1)) (k:Int) (-1)=(L1++rwM (qs.take i) (k:Int) (-1))++ [⟨qs.getD i default,(k:Int),-1⟩]:=by
      unfold rwM;rw[List.take_add_one,zG hi',List.map_append,gdqA,zG hi',List.append_assoc];rfl
     have eG:qs[i]=qs.getD i default:=by rw[gdqA,zG hi'];rfl
     rw[eG];have hpm:qs.getD i default∈qs:=zh hi';obtain⟨p,hp'⟩:=wD (qs.getD i default)
     rw[<-hp']at hS hpm ⊢;obtain⟨M,hM⟩:=wD (L1++rwM (qs.take i) (k:Int) (-1))
     have hMF: ∀r∈M,PcF r.p:=λr hr=>by
      rw[hM]at hr;rcases List.mem_append.1 hr with hr|hr
      ·exact hLF2 r hr
      ·exact hpF2 _ (List.mem_of_mem_take (jz.1 hr).1)
     have hMn:M.length<=1000000000:=by
      rw[hM,lap,jF,List.length_take];rw[lap,jF]at hLn2;omega
     rw[<-hM]at hS ⊢;simp only[kA,List.append_assoc,lca,lna];simp (disch:=omega) only[sA',pcC,tkC,go_sem];refine hK1 _ _ (h++ [.mem 1 26 [.str x.sec,strs x.sig,qm x.tok,qo x.col],.emp 1,.emp 2,.mem 1 29 [.osl (h.length+15) (vc+i) 7 0 M.length],.mem 1 121 [.fn (.func 80) [] [.op (h.length+3) 1 0]],O5,.emp 0,P7,P8,A0,(.mem (qn (some A)+1) 120 (pcC p)),O11,O12,.mem 1 3 (qT (yR x l d d.length)),.mem 2 64 MC,zE (vc+i) 36 (jC (bsW M))]) ?_ ?_ ?_
     ·simp[pcC,tkC]
     ·simp
     ·simp only[List.append_assoc,lca,lna];simp (disch:=omega) only[pcC,tkC,cP7,go_sem]
      repeat' first|with_reducible apply aiA|exact clz|fail
      refine kQ (Ht (a:=h.length+3) (b:=h.length+15) (c:=h.length) (va:=1) (vb:=vc+i) (Z:= .mem 1 26 [.str x.sec,strs x.sig,qm x.tok,qo x.col]) ⟨by simp,by simp,by simp,om,om,om⟩ M p (k:Int) (-1) (by simp only[go_sem]) (by simp only[go_sem]) (by simp only[go_sem]) (by rw[<-hX0];exact lX0) (hpF2 p hpm) hMn hMF) ?_;simp (disch:=omega) only[go_sem];refine hN1 _ _ (h++ [.mem 1 26 [.str x.sec,strs x.sig,qm x.tok,qo x.col],.emp 1,.emp 2,.mem 1 29 [.osl (h.length+15) (vc+(i+1)) 7 0 (M++ [(⟨p,(k:Int),-1⟩:Rw)]).length],.mem 1 121 [.fn (.func 80) [] [.op (h.length+3) 1 0]],O5,.emp 0,P7,P8,A0,(.mem (qn (some A)+1) 120 (pcC p)),O11,O12,.mem 1 3 (qT (yR x l d d.length)),.mem 2 64 MC,zE (vc+(i+1)) 36 (jC (bsW (M++ [(⟨p,(k:Int),-1⟩:Rw)])))]) ?_ ?_ ⟨_,rfl,?_,by rw[hS]⟩
      ·simp[pcC,tkC,Nat.add_assoc]
      ·simp
      ·intro n c hc;simp[pcC,tkC]at hc;rcases hc with rfl|rfl|rfl|rfl|rfl|rfl|rfl<;>rfl
    ·rintro hh ⟨B,sB,lB,rfl⟩;rw[List.length_map,List.take_length];simp (disch:=omega) only[go_sem];have e2:nxT x l (k+1)=t':=by
      unfold nxT;rw[ipo om,b2];unfold zx;rw[ine om,Nat.add_sub_cancel]
     refine hK _ _ ⟨k+1,vc+qs.length,P7,P8,A0,B,O11,O12⟩ ⟨by simp only;omega,λO hO=> ?_⟩ (by simp only;omega) ?_
     ·simp only[List.mem_cons,List.not_mem_nil,or_false]at hO;rcases hO with rfl|rfl|rfl|rfl|rfl|rfl
      ·exact hP7l
      ·exact hP8l
      ·rw[hA0];exact⟨sA,lA⟩
      ·exact⟨sB,lB⟩
      ·exact⟨s11,l11⟩
      ·exact⟨s12,l12⟩
     ·simp only[eR1,e2];refine Wk.temps ?_
      (simp only[go_sem,qg,qc,qa,qf];try exact wr)
    ·intro e hh hf;exact hf.elim
   ·have q7:(D<0)=False:=eqf g6;obtain⟨j,hj⟩: ∃j:Nat,D=j:=⟨D.toNat,om⟩
    have hjd:j<d.length:=by
     have:=(xQ x l d k d.length).2
     omega
    rw[hj]at eLs hD q7;have q8:(0<=(j:Int))=True:=xv;have q9:((j:Int)<d.length)=True:=xv;have s11': ∀m,qK (O11::m) 0=true:=λ_=>s11
    have e0:=hpl j hjd;have eU:jN x l (d.getD j default)=k:=mU (n:=d.length) hD.symm;obtain⟨o,ho'⟩:=wD (d.getD j default)
    have eo:=ho'.symm;rw[eo]at e0 eU;have hot:o.txt.length<=1000:=ht o (by rw[ho'];exact zh hjd);obtain⟨p1,p2,p3,p4,p5,p6⟩:=w9 e0;have c5:=λh=>qfJ h
    have zp: ∀g l,valL g .len [ij l]= .int .i64 l.length:=λ_ _=>rfl
    have zq: ∀g l,okL g .len [ij l]=True:=λ_ _=>eqt trivial
    have k7:(0<=o.kind)=True:=xv;have k8:(o.kind<4)=True:=xv;obtain⟨_,_,a3,a4,_⟩:=jO hus hkl;obtain⟨fid,qs,eIx,c6,eqs,hpF2⟩: ∃(fid:Nat) (qs:List Pc),[AV.nilfn,AV.fn (.func 136) [] [],AV.fn (.func 138) [] [],AV.fn (.func 140) [] []][Int.toNat o.kind]?.getD AV.undef= .fn (.func fid) [] []∧(∀l',ACalls Tryz.prog fid [.agg [.str x.sec,strs x.sig,qm x.tok,qo x.col],.agg [.int .i64 (f:Int),.int .i64 (t':Int),RV],.agg [.int .i64 o.kind,.str o.sig,.int .i64 o.tok,.str o.txt]] (h++l') (ij qs) (h++l'))∧qs=mn x l k o∧ ∀p∈qs,PcF p:=by
     obtain⟨a1,a2,_⟩:=jO hus hkl;rcases (show o.kind=1∨o.kind=2∨o.kind=3 by omega)with g7|g7|g7
     ·obtain⟨S1,hS1⟩: ∃S1:Nat,zM x o.sig=S1:=⟨(zM x o.sig).toNat,by have:=(lW p4).1;omega⟩
      have hS1l:S1<x.sig.length:=by have:=(lW p4).2.1;omega
      refine⟨136,spk x S1 f (t'-f),by rw[g7];rfl,λl'=> ?_,?_,xz ho hS1l om⟩
      ·have c6:=qfG x (l.getD k default) o S1 f t' (h++l') hz ho hS1 hS1l (by rw[a1,b1]) (by rw[a2,b2]) om om;unfold coC unC dcC at c6;rw[a1,a2,<-b1,<-b2,<-b3]at c6;exact c6
      ·unfold mn;rw[ipo g7,hS1,itn,b1,b2]
     ·obtain⟨r1,r2,r3,r4⟩:=Qv p6 g7;refine⟨138,cjP (gW o.txt) (f:Int),by rw[g7];rfl,λl'=> ?_,?_,BX r2⟩
      ·have c6:=qfH x (l.getD k default) o (h++l') hot r4 r1 r2 hg.app;unfold coC unC dcC at c6;rw[a1,a2,<-b1,<-b2,<-b3]at c6;exact c6
      ·unfold mn cjP;rw[ine (by rw[g7];decide),ipo g7,a1,b1]
     ·refine⟨140,[],by rw[g7];rfl,λl'=> ?_,?_,λp hp=>by cases hp⟩
      ·have c6:=qfI x (l.getD k default) o (h++l');unfold coC unC dcC at c6;rw[a1,a2,<-b1,<-b2,<-b3]at c6;exact c6
      ·unfold mn;rw[ine (by rw[g7];decide),ine (by rw[g7];decide)]
    simp (disch:=omega) only[q2,q4,q5,q6,q7,q8,q9,hlc,hll,eLs,zu,zv,jG,dcC,eo,s11',go_sem]
    repeat' first|with_reducible apply aiA|exact clz|fail
    refine jL ?Ta ?Ha ?h1 ?h2
    case h1=>
     simp (disch:=omega) only[go_sem]
     repeat' first|(refine cU (λ_=>c5 _) flk ?_;simp (disch:=omega) only[k7,go_sem])|with_reducible apply aiA
     all_goals first
      |omega
      |rfl
      |skip
     rw[eIx];refine Qd (c6 _) (by exact flk) ?_;simp (disch:=omega) only[zp,zq,go_sem]
     repeat' first|with_reducible apply aiA
     all_goals first
      |omega
      |rfl
      |skip
    case h2=>
    rw[<-hP7,<-hP8];obtain⟨P11,hP11⟩:=wD (AObj.mem (qn (some O11)+1) 43 [.int .i64 o.kind,.str o.sig,.int .i64 o.tok,.str o.txt])
    rw[<-hP11];have eR1:rwK x l d S (k+1)=L1++rwM qs (k:Int) (j:Int):=by
     unfold rwK;rw[ipo om];show rwL x l d S k++(rwC x S (zx l k) (frN l k)++rwU x l d S k)=_;unfold rwU;rw[<-hD,ine om,itn,eo,hL1,hL0,hps,eqs,b1,List.append_assoc];rfl
    have hLF2: ∀r∈L1,PcF r.p:=λr hr=>by
     rw[hL1]at hr;rcases List.mem_append.1 hr with hr|hr
     ·exact hLF r hr
     ·exact hpF _ (jz.1 hr).1
    have hLn2:(L1++rwM qs (k:Int) (j:Int)).length<=1000000000:=by
     rw[<-eR1];unfold rwK;rw[ipo om];exact Nat.le_trans (JR (show k+1<=l.length by omega)) hN
    simp (disch:=omega) only[go_sem];have hqn:qs.length<=1000000000:=by rw[lap,jF]at hLn2;omega
    refine qp (T:=λi:Nat×AObj=>zw 154 [(1,zf l),(2,jG d),(3,.int .i64 (S:Int)),(4,.op h.length 1 0),(13,.osl (h.length+13) 1 1 0 l.length),(16,.op (h.length+3) 1 0),(17,.op (h.length+4) 1 0),(18,.int .i64 (t':Int)),(19,.op (h.length+7) (qn (some O7)+1) 0),(78,.osl (h.length+14) 2 3 0 (l.length+1)),(79,.int .i64 ((l.length+1:Nat):Int)),(80,.int .i64 (k:Int)),(111,ij qs),(112,.int .i64 qs.length),(113,.int .i64 i.1)])
     (H:=λi=>h++ [.mem 1 26 [.str x.sec,strs x.sig,qm x.tok,qo x.col],.emp 1,.emp 2,.mem 1 29 [.osl (h.length+15) (vb+ps.length+i.1) 7 0 (L1++rwM (qs.take i.1) (k:Int) (j:Int)).length],.mem 1 121 [.fn (.func 80) [] [.op (h.length+3) 1 0]],O5,.emp 0,P7,P8,A,O10,P11,i.2,.mem 1 3 (qT (yR x l d d.length)),.mem 2 64 MC,zE (vb+ps.length+i.1) 36 (jC (bsW (L1++rwM (qs.take i.1) (k:Int) (j:Int))))])
     (inv:=λi=>i.1<=qs.length∧qK [i.2] 0=true∧ ∀n,lowO n i.2) (m:=λi=>qs.length-i.1) (0,O12) ⟨nzl _,s12,l12⟩ ?_ ?_
    ·simp only[List.take_zero,rwM,List.map_nil,lan,Nat.add_zero];refine Wk.temps ?_
     (simp only[jG,dcC,go_sem,qg,qc,qa,qf];try exact wr)
    rintro⟨i,B⟩ ⟨j1,j2,j3⟩ K3 hK3;simp only at j1 j2 j3 hK3;have j2': ∀m,qK (B::m) 0=true:=λ_=>j2
    by_cases hi:i<qs.length
    ·have w1:((i:Int)<qs.length)=True:=xv;have w2:(0<=(i:Int))=True:=xv;have hS:L1++rwM (qs.take (i+1)) (k:Int) (j:Int)=(L1++rwM (qs.take i) (k:Int) (j:Int))++ [⟨qs.getD i default,(k:Int),(j:Int)⟩]:=by
      unfold rwM;rw[List.take_add_one,zG hi,List.map_append,gdqA,zG hi,List.append_assoc];rfl
     have hpm:qs.getD i default∈qs:=zh hi;obtain⟨p,hp'⟩:=wD (qs.getD i default)
     have ep:=hp'.symm;rw[<-hp']at hS hpm;obtain⟨M,hM⟩:=wD (L1++rwM (qs.take i) (k:Int) (j:Int))
     have hMF: ∀r∈M,PcF r.p:=λr hr=>by
      rw[hM]at hr;rcases List.mem_append.1 hr with hr|hr
      ·exact hLF2 r hr
      ·exact hpF2 _ (List.mem_of_mem_take (jz.1 hr).1)
     have hMn:M.length<=1000000000:=by
      rw[hM,lap,jF,List.length_take];rw[lap,jF]at hLn2;omega
     rw[<-hM]at hS ⊢;simp (disch:=omega) only[ij,pcC,tkC,w1,w2,ep,j2',cP7,q2,q5,q6,eLs,hlc,hll,go_sem]
     repeat' first|with_reducible apply aiA|exact clz|fail
     refine kQ (Ht (a:=h.length+3) (b:=h.length+15) (c:=h.length) (va:=1) (vb:=vb+ps.length+i) (Z:= .mem 1 26 [.str x.sec,strs x.sig,qm x.tok,qo x.col]) ⟨by simp,by simp,by simp,om,om,om⟩ M p (k:Int) (j:Int) (by simp only[go_sem]) (by simp only[go_sem]) (by simp only[go_sem]) (by rw[<-hX0];exact lX0) (hpF2 p hpm) hMn hMF) ?_;simp (disch:=omega) only[go_sem];refine hK3 _ _ (i+1,.mem (qn (some B)+1) 120 (pcC p)) ⟨hi,rfl,λn c hc=> ?_⟩ (by simp only;omega) ?_
     ·simp[pcC,tkC]at hc;rcases hc with rfl|rfl|rfl|rfl|rfl|rfl|rfl<;>rfl
     ·simp only[hS,pcC,tkC,lap,lco,lnl,lca,lna,Nat.zero_add];refine Wk.temps ?_
      (simp only[jG,dcC,go_sem,qg,qc,qa,qf];try exact wr)
    ·have w1:((i:Int)<qs.length)=False:=xD;obtain rfl:i=qs.length:=by omega
     rw[List.take_length];simp (disch:=omega) only[w1,go_sem];have e2:nxT x l (k+1)=t':=by
      unfold nxT;rw[ipo om,b2];unfold zx;rw[ine om,Nat.add_sub_cancel]
     refine hK _ _ ⟨k+1,vb+ps.length+qs.length,P7,P8,A,O10,P11,B⟩ ⟨by simp only;omega,λO hO=> ?_⟩ (by simp only;omega) ?_
     ·simp only[List.mem_cons,List.not_mem_nil,or_false]at hO;rcases hO with rfl|rfl|rfl|rfl|rfl|rfl
      ·exact hP7l
      ·exact hP8l
      ·exact⟨sA,lA⟩
      ·exact⟨s10,l10⟩
      ·rw[hP11];refine⟨rfl,λn c hc=> ?_⟩;simp at hc;rcases hc with rfl|rfl|rfl|rfl<;>rfl
      ·exact⟨j2,j3⟩
     ·simp only[eR1,e2];refine Wk.temps ?_
      (simp only[go_sem,qg,qc,qa,qf];try exact wr)
  ·intro e hh hf;exact hf.elim
def txG(p:Int->Bool)(b:List Wd):Nat->List Str
 |0=> []
 |i+1=>txG p b i++if p (b.getD i default).unit=true then [(b.getD i default).text] else []
theorem Gt(b:List Wd)(k:Int): ∀n,owG b k n=txG (λu=>decide (u=k)) b n:=by
 intro n
 induction n with
 |zero=>rfl
 |succ n ih=>
  unfold owG txG;rw[ih];congr 1
  by_cases g:(b.getD n default).unit=k
  ·rw[ipo g,ipo (dqt g)]
  ·rw[ine g,ine (by rw[dqf g];simp)]
def rwT(r:Rw):Str:=r.p.t.text
theorem Rx(p:Int->Bool)(L:List Rw): ∀n,n<=L.length->txG p (bsW L) n=((L.take n).filter λr=>p r.u).map rwT:=by
 intro n
 induction n with
 |zero=>intro _;rfl
 |succ n ih=>
  intro hn;unfold txG;rw[ih om,List.take_add_one,zG hn,Option.toList_some,List.filter_append,List.map_append,xm hn];congr 1;have e:L.getD n default=L[n]:=by rw[gdqA,zG hn];rfl
  rw[e];show (if p L[n].u=true then [L[n].p.t.text] else [])=_;cases g:p L[n].u with
  |true=>rw[ipo rfl,List.filter_cons_of_pos (by rw[g])];rfl
  |false=>rw[ine (by simp),List.filter_cons_of_neg (by rw[g];simp)];rfl
theorem Gs(p:Int->Bool)(L:List Rw):txG p (bsW L) (bsW L).length=(L.filter λr=>p r.u).map rwT:=by
 rw[jD,Rx p L _ (nlr _),List.take_length]
theorem yH{L:List Rw}{p:Rw->Bool}(h: ∀r∈L,p r=false):L.filter p= []:=List.filter_eq_nil_iff.2 λr hr=>by rw[h r hr];simp
theorem WX{L:List Rw}{p:Rw->Bool}(h: ∀r∈L,p r=true):L.filter p=L:=List.filter_eq_self.2 h
def rwZ(x:Co)(l:List Un)(d:List Dc)(s k:Nat):Nat->List Rw
 |0=> []
 |n+1=>rwZ x l d s k n++(rwC x s (zx l (k+n)) (frN l (k+n))++rwU x l d s (k+n))
theorem FY(x:Co)(l:List Un)(d:List Dc)(s k:Nat): ∀n,rwL x l d s (k+n)=rwL x l d s k++rwZ x l d s k n:=by
 intro n
 induction n with
 |zero=>rw[Nat.add_zero];unfold rwZ;rw[lan]
 |succ n ih=>
  show rwL x l d s (k+n)++(rwC x s (zx l (k+n)) (frN l (k+n))++rwU x l d s (k+n))=rwL x l d s k++(rwZ x l d s k n++(rwC x s (zx l (k+n)) (frN l (k+n))++rwU x l d s (k+n)));rw[ih,List.append_assoc]
def rwF(x:Co)(l:List Un)(d:List Dc)(s k:Nat):List Rw:=rwL x l d s k++rwC x s (zx l k) (frN l k)
def rwE(x:Co)(l:List Un)(d:List Dc)(s k:Nat):List Rw:=rwZ x l d s (k+1) (l.length-(k+1))++rwC x s (zx l l.length) x.col.length
theorem lK(x:Co)(l:List Un)(d:List Dc)(s:Nat){k:Nat}(hk:k<l.length):rwA x l d s=rwF x l d s k++(rwU x l d s k++rwE x l d s k):=by
 unfold rwA;have e:l.length=(k+1)+(l.length-(k+1)):=by omega
 have e1:=FY x l d s (k+1) (l.length-(k+1));rw[<-e]at e1;rw[e1];show (rwL x l d s k++(rwC x s (zx l k) (frN l k)++rwU x l d s k))++_++_=_;unfold rwF rwE;simp only[List.append_assoc]
theorem qdu{x:Co}{l:List Un}{d:List Dc}{s:Nat}(h:wt x l d s){k:Nat}(hk:k<l.length){r:Rw}(hr:r∈rwF x l d s k):r.u<k:=by
 rcases List.mem_append.1 (show r∈rwL x l d s k++_ from hr)with hr|hr
 ·exact ((JW h k om).1 r hr).2.2
 ·have:=(fc h (show frN l k<=x.col.length by have:=jO h.us hk;omega) hr).1
  omega
theorem qdv{x:Co}{l:List Un}{d:List Dc}{s:Nat}(h:wt x l d s){k:Nat}: ∀n,k+n<=l.length-> ∀r∈rwZ x l d s k n,r.u<0∨(k:Int)<=r.u:=by
 intro n
 induction n with
 |zero=>intro _ r hr;cases hr
 |succ n ih=>
  intro hn r hr;rcases List.mem_append.1 (show r∈rwZ x l d s k n++_ from hr)with hr|hr
  ·exact ih om r hr
  ·rcases List.mem_append.1 hr with hr|hr
   ·have:=(fc h (show frN l (k+n)<=x.col.length by have:=jO h.us (show k+n<l.length by omega);omega) hr).1
    omega
   ·have:=(lL h (show k+n<l.length by omega) hr).u
    omega
theorem qdt{x:Co}{l:List Un}{d:List Dc}{s:Nat}(h:wt x l d s){k:Nat}(hk:k<l.length){r:Rw}(hr:r∈rwE x l d s k):r.u<0∨(k:Int)<r.u:=by
 rcases List.mem_append.1 (show r∈rwZ x l d s (k+1) (l.length-(k+1))++_ from hr)with hr|hr
 ·have:=qdv h (l.length-(k+1)) om r hr
  omega
 ·have:=(fc h (nlr _) hr).1
  omega
theorem BW{x:Co}{l:List Un}{d:List Dc}{s:Nat}(h:wt x l d s){k:Nat}(hk:k<l.length):owG (bsW (rwA x l d s)) k (bsW (rwA x l d s)).length=(rwU x l d s k).map rwT:=by
 rw[Gt,Gs,lK x l d s hk,List.filter_append,List.filter_append];rw[yH (L:=rwF x l d s k) (λr hr=>dqf (by have:=qdu h hk hr;omega)),WX (L:=rwU x l d s k) (λr hr=>dqt (lL h hk hr).u),
  yH (L:=rwE x l d s k) (λr hr=>dqf (by have:=qdt h hk hr;omega)),lna,lan]
theorem bQ(ps:List Pc)(u d:Int):(rwM ps u d).map rwT=ps.map λp=>p.t.text:=by unfold rwM;rw[List.map_map];rfl
theorem gu{x:Co}{l:List Un}{d:List Dc}{s k:Nat}:(rwU x l d s k).map rwT=
  if wz x l d k d.length<0 then rdG x s (frN l k) (toN l k-frN l k)
  else if (d.getD (wz x l d k d.length).toNat default).kind=1 then rdG x (zM x (d.getD (wz x l d k d.length).toNat default).sig).toNat (frN l k) (toN l k-frN l k)
  else if (d.getD (wz x l d k d.length).toNat default).kind=2 then (gW (d.getD (wz x l d k d.length).toNat default).txt).map Tk.text else []:=by
 unfold rwU;split
 ·rw[bQ,xT]
 ·rw[bQ];unfold mn;split
  ·rw[xT]
  ·split
   ·rw[List.map_map];rfl
   ·rfl
theorem JV{x:Co}{l:List Un}{d e:List Dc}{s:Nat}: ∀k,(∀j,j<k->rwU x l d s j=rwU x l e s j)->rwL x l d s k=rwL x l e s k:=by
 intro k
 induction k with
 |zero=>intro _;rfl
 |succ k ih=>
  intro h;show rwL x l d s k++(_++rwU x l d s k)=rwL x l e s k++(_++rwU x l e s k);rw[ih (λj hj=>h j om),h k om]
theorem JY{x:Co}{l:List Un}{d e:List Dc}{s k:Nat}: ∀n,(∀j,k<=j->j<k+n->rwU x l d s j=rwU x l e s j)->rwZ x l d s k n=rwZ x l e s k n:=by
 intro n
 induction n with
 |zero=>intro _;rfl
 |succ n ih=>
  intro h;show rwZ x l d s k n++(_++rwU x l d s (k+n))=rwZ x l e s k n++(_++rwU x l e s (k+n));rw[ih (λj h1 h2=>h j h1 om),h (k+n) om om]
theorem JU{x:Co}{l:List Un}{d e:List Dc}{s k:Nat}(h: ∀j,j<l.length->j≠k->rwU x l d s j=rwU x l e s j)(hk:k<l.length):rwF x l d s k=rwF x l e s k:=by
 unfold rwF;rw[JV k (λj hj=>h j om om)]
theorem JS{x:Co}{l:List Un}{d e:List Dc}{s k:Nat}(h: ∀j,j<l.length->j≠k->rwU x l d s j=rwU x l e s j)(hk:k<l.length):rwE x l d s k=rwE x l e s k:=by
 unfold rwE;rw[JY _ (λj h1 h2=>h j om om)]
def XU(w:Wd):Wd:=⟨w.text,w.col,w.unit,w.dec,false,w.verse,w.name⟩
theorem nB{x:Co}{l:List Un}{s:Nat}(h:wJ x l=true): ∀k,k<=l.length->(rwL x l [] s k).map (λr=>r.p)=spk x s 0 (zx l k):=by
 intro k
 induction k with
 |zero=>intro _;rfl
 |succ k ih=>
  intro hk;show (rwL x l [] s k++(rwC x s (zx l k) (frN l k)++rwU x l [] s k)).map _=_;have hp:=aW h (show k<l.length by omega);obtain⟨_,_,a3,a4,_⟩:=jO h (show k<l.length by omega);rw[List.map_append,List.map_append,ih om,xR];have e1:(rwC x s (zx l k) (frN l k)).map (λr=>r.p)=spk x s (zx l k) (frN l k-zx l k):=by unfold rwC;exact rwM_p _ _ _
  have e2:(rwU x l [] s k).map (λr=>r.p)=spk x s (frN l k) (toN l k-frN l k):=by
   unfold rwU;rw[ipo (by show (-1:Int)<0;omega)];exact rwM_p _ _ _
  rw[e1,e2];have g1:=spk_add x s 0 (zx l k) (frN l k-zx l k);have g2:=spk_add x s 0 (frN l k) (toN l k-frN l k);rw[Nat.zero_add]at g1 g2;rw[show zx l k+(frN l k-zx l k)=frN l k by omega]at g1;rw[show frN l k+(toN l k-frN l k)=toN l k by omega]at g2;rw[<-List.append_assoc,<-g1,<-g2]
where
 rwM_p (ps:List Pc) (u d:Int):(rwM ps u d).map (λr=>r.p)=ps:=by unfold rwM;rw[List.map_map];exact List.map_id _
 spk_add (x:Co) (s f d:Nat): ∀e,spk x s f (d+e)=spk x s f d++spk x s (f+d) e:=by
  intro e
  induction e with
  |zero=>rw[Nat.add_zero];show _=_++ [];rw[lan]
  |succ e ih=>
   show spk x s f (d+e)++(if pcB x s (f+(d+e))=true then [pcT x s (f+(d+e))] else [])=spk x s f d++(spk x s (f+d) e++if pcB x s (f+d+e)=true then [pcT x s (f+d+e)] else []);rw[ih,List.append_assoc,Nat.add_assoc]
theorem FX{x:Co}{l:List Un}{s:Nat}(h:wJ x l=true):(rwA x l [] s).map (λr=>r.p)=spk x s 0 x.col.length:=by
 unfold rwA;have hp:=xa h (nlr l.length);rw[List.map_append,nB h _ (nlr _)];have e1:(rwC x s (zx l l.length) x.col.length).map (λr=>r.p)=spk x s (zx l l.length) (x.col.length-zx l l.length):=by unfold rwC;exact nB.rwM_p _ _ _
 have g1:=nB.spk_add x s 0 (zx l l.length) (x.col.length-zx l l.length);rw[Nat.zero_add,show zx l l.length+(x.col.length-zx l l.length)=x.col.length by omega]at g1;rw[e1,<-g1]
theorem Gh{x:Co}(h:CoOk x){s:Nat}(hs:s<x.sig.length): ∀n,n<=x.col.length->(spk x s 0 n).map (λp=>p.t)=(x.tok.getD s []).take (cnC x.col s n):=by
 intro n
 induction n with
 |zero=>intro _;rfl
 |succ n ih=>
  intro hn;unfold spk cnC;rw[List.map_append,ih om,Nat.zero_add];rcases h.ce n om s hs with e|⟨e1,e2⟩
  ·have hp: ¬pcB x s n=true:=by unfold pcB;rw[e];decide
   rw[ine hp,ipo e,Nat.add_zero];exact lan _
  ·have hp:pcB x s n=true:=by unfold pcB;exact dqt om
   have hn1: ¬(x.col.getD n []).getD s 0= -1:=by omega
   rw[ipo hp,ine hn1];have hlt:cnC x.col s n<(x.tok.getD s []).length:=by omega
   rw[List.take_add_one,zG hlt];show _++ [(pcT x s n).t]=_;unfold pcT;rw[e1,itn,gdqA (l:=x.tok.getD s []),zG hlt];rfl
theorem Gf{x:Co}(h:CoOk x){s:Nat}(hs:s<x.sig.length):(spk x s 0 x.col.length).map (λp=>p.t)=x.tok.getD s []:=by
 rw[Gh h hs _ (nlr _),h.ct s hs,List.take_length]
theorem Px{x:Co}{l:List Un}(h:wJ x l=true){k s:Nat}(hk:k<l.length)(hs:s<x.sig.length):
  ∃j,lE (l.getD k default).rds s=(j:Nat)∧j<(l.getD k default).rds.length∧((l.getD k default).rds.getD j default).words=rdG x s (frN l k) (toN l k-frN l k)∧pp (l.getD k default).rds (rdG x s (frN l k) (toN l k-frN l k))=(j:Nat):=by
 obtain⟨_,_,_,_,e⟩:=jO h hk;have hi:=bO x (frN l k) (toN l k);have hh:=fX x (frN l k) (toN l k);rw[e];obtain⟨j,h1,h2,h3,h4,h5⟩:=JA hh hi hs;refine⟨j,h1,h2,h4,?_⟩;unfold pp;refine wv h2 (λi hij=>dqf λhw=>hi.ne i j hij h2 ?_) (dqt h4.symm);rw[<-hw,h4]
def dcK(x:Co)(l:List Un)(d:List Dc)(r:Rw):Int:=if r.u<0 then-1 else wz x l d r.u.toNat d.length
theorem JX{x:Co}{l:List Un}{d:List Dc}{s k:Nat}{r:Rw}(hr:r∈rwU x l d s k):r.u=k∧r.d=wz x l d k d.length:=by
 have h1:=xQ x l d k d.length;unfold rwU at hr;split at hr
 ·obtain⟨_,g2,g3⟩:=jz.1 hr;exact⟨g2,om⟩
 ·obtain⟨_,g2,g3⟩:=jz.1 hr;exact⟨g2,g3⟩
theorem nz{x:Co}{l:List Un}{d:List Dc}{s:Nat}{r:Rw}(hr:r∈rwA x l d s):(r.u= -1∧r.d= -1)∨ ∃k,k<l.length∧r∈rwU x l d s k:=by
 have hL: ∀k,k<=l.length->r∈rwL x l d s k->(r.u= -1∧r.d= -1)∨ ∃k,k<l.length∧r∈rwU x l d s k:=by
  intro k
  induction k with
  |zero=>intro _ hr;cases hr
  |succ k ih=>
   intro hk hr;rcases List.mem_append.1 (show r∈rwL x l d s k++_ from hr)with hr|hr
   ·exact ih om hr
   ·rcases List.mem_append.1 hr with hr|hr
    ·exact .inl (jz.1 (show r∈rwM _ _ _ from hr)).2
    ·exact .inr ⟨k,om,hr⟩
 rcases List.mem_append.1 (show r∈rwL x l d s l.length++_ from hr)with hr|hr
 ·exact hL _ (nlr _) hr
 ·exact .inl (jz.1 (show r∈rwM _ _ _ from hr)).2
theorem pC{x:Co}{l:List Un}{d:List Dc}{s:Nat}{r:Rw}(hr:r∈rwA x l d s):r.d=dcK x l d r:=by
 unfold dcK;rcases nz hr with⟨h1,h2⟩|⟨k,_,hk⟩
 ·rw[ipo om,h2]
 ·obtain⟨h1,h2⟩:=JX hk;rw[ine om,h1,itn,h2]
theorem qcn{x:Co}{l:List Un}{d:List Dc}{s:Nat}(h:wt x l d s){i:Nat}(hi:i<(rwA x l d s).length):tO x l (bsW (rwA x l d s)) i=0:=by
 obtain⟨g1,g2⟩:=pD h;have hm:=zh (a:=default) hi;have g:=g1 _ hm;have hd:=pC hm;have hr:=yk l ((rwA x l d s).getD i default).p.c;have hu:=g.u;unfold tO;rw[xm hi];obtain⟨r,hrr⟩:=wD ((rwA x l d s).getD i default)
 rw[<-hrr]at g hd hr hu;have bef: ∀hi0:i≠0,mh (bsW (rwA x l d s)) i=mkW (VO (rwA x l d s) (i-1)) ((rwA x l d s).getD (i-1) default)∧((rwA x l d s).getD (i-1) default).p.c<=r.p.c∧(0<=r.u->r.u=((rwA x l d s).getD (i-1) default).u->r.d=((rwA x l d s).getD (i-1) default).d):=λhi0=>by
  refine⟨?_,?_,λh1 h2=> ?_⟩
  ·unfold mh;rw[ine hi0,xm om]
  ·have:=List.pairwise_iff_getElem.1 g2 (i-1) i om hi om
   rw[hrr,gdqA,zG (show i-1<_ by omega),gdqA,zG hi];exact this
  ·have h3:=pC (zh (a:=default) (show i-1<(rwA x l d s).length by omega));rw[hd,h3];unfold dcK;rw[h2]
 rw[<-hrr];unfold wdE;show (if r.p.t.text= []∨64<r.p.t.text.length then (11:Int) else if r.p.c<0∨(x.col.length:Int)<=r.p.c∨(decide (i=0)=false∧r.p.c<(mh (bsW (rwA x l d s)) i).col) then 19 else
  if r.u< -1∨(l.length:Int)<=r.u then 20 else if fnU l r.p.c≠r.u then 20 else
  if r.d< -1∨(r.u<0∧r.d≠ -1)∨(decide (i=0)=false∧0<=r.u∧r.u=(mh (bsW (rwA x l d s)) i).unit∧r.d≠(mh (bsW (rwA x l d s)) i).dec) then 2 else 0)=0
 rw[ine (λhc=>hc.elim g.tx.1 (λhc=>by have:=g.tx.2;omega))];rw[ine]
 ·rw[ine om,ine (λhc=>hc hu),ine];rintro (hc|⟨hc1,hc2⟩|⟨h0,h1,h2,h3⟩)
  ·have:=g.d.1;omega
  ·exact hc2 (g.n hc1).2
  ·have h0:i≠0:=of_decide_eq_false h0;obtain⟨b1,b2,b3⟩:=bef h0;rw[b1]at h2 h3;exact h3 (b3 h1 h2)
 ·rintro (hc|hc|⟨h0,h1⟩)
  ·have:=g.c.1;omega
  ·have:=g.c.2;omega
  ·have h0:i≠0:=of_decide_eq_false h0;obtain⟨b1,b2,b3⟩:=bef h0;rw[b1]at h1;have h1:r.p.c<((rwA x l d s).getD (i-1) default).p.c:=h1;omega
theorem Dk(L:List Rw)(c:Int): ∀n,n<=L.length->cW (bsW L) c n=((L.take n).filter λr=>decide (r.p.c=c)).length:=by
 intro n
 induction n with
 |zero=>intro _;rfl
 |succ n ih=>
  intro hn;unfold cW;rw[ih om,List.take_add_one,zG hn,Option.toList_some,List.filter_append,lap,xm hn];congr 1;have e:L.getD n default=L[n]:=by rw[gdqA,zG hn];rfl
  rw[e];show (if L[n].p.c=c then 1 else 0)=_
  by_cases g:L[n].p.c=c
  ·rw[ipo g,List.filter_cons_of_pos (p:=λr:Rw=>decide (r.p.c=c)) (dqt g)];rfl
  ·rw[ine g,List.filter_cons_of_neg (p:=λr:Rw=>decide (r.p.c=c)) (by rw[dqf g];simp)];rfl
theorem YQ{x:Co}{l:List Un}{d:List Dc}{s:Nat}(h:wt x l d s){c:Nat}(hc:c<x.col.length)(hf:fnU l (c:Int)<0): ∀n,n<=x.col.length->(rwS x l d s n).filter (λr=>decide (r.p.c=(c:Int)))=if c<n then [⟨pcT x s c,-1,-1⟩] else []:=by
 intro n
 induction n with
 |zero=>intro _;rfl
 |succ n ih=>
  intro hn;show (rwS x l d s n++rwc x l d s n).filter _=_;rw[List.filter_append,ih om]
  by_cases e:n=c
  ·subst e;rw[ine (Nat.lt_irrefl _),ipo (Nat.lt_succ_self _)];unfold rwc;rw[ipo hf,List.filter_cons_of_pos (p:=λr:Rw=>decide (r.p.c=(n:Int))) (dqt rfl)];rfl
  ·have e2:(rwc x l d s n).filter (λr=>decide (r.p.c=(c:Int)))= []:=by
    refine yH λr hr=>dqf λhc2=> ?_
    unfold rwc at hr;split at hr
    ·rw[List.mem_singleton]at hr;subst hr;have hc2:((n:Nat):Int)=c:=hc2;omega
    ·rename_i g;split at hr
     ·have hg:=yk l (n:Int);have q:=lL h (show (fnU l (n:Int)).toNat<l.length by omega) hr;have q2:=PV h (show (fnU l (n:Int)).toNat<l.length by omega) q;have q3:=q2.u;rw[hc2]at q3
      have:=q.u
      omega
     ·cases hr
   rw[e2,lan]
   by_cases g:c<n
   ·rw[ipo g,ipo om]
   ·rw[ine g,ine om]
theorem qcm{x:Co}{l:List Un}{d:List Dc}{s:Nat}(h:wt x l d s){c:Nat}(hc:c<x.col.length)(hf:fnU l (c:Int)<0):ccB x (bsW (rwA x l d s)) c=true:=by
 have hS:=FZ d h.us h.cv h.co h.sl;have hF:=YQ h hc hf x.col.length (nlr _);rw[hS,ipo hc]at hF;have h1:cW (bsW (rwA x l d s)) c (bsW (rwA x l d s)).length=1:=by
  rw[jD,Dk _ _ _ (nlr _),List.take_length,hF];rfl
 unfold ccB;rw[h1,dqt rfl,Bool.true_and];have hm:(⟨pcT x s c,-1,-1⟩:Rw)∈rwA x l d s:=by
  have:(⟨pcT x s c,-1,-1⟩:Rw)∈(rwA x l d s).filter (λr=>decide (r.p.c=(c:Int))):=by rw[hF];exact List.mem_singleton.2 rfl
  exact (List.mem_filter.1 this).1
 obtain⟨i,hi,he⟩:=List.getElem_of_mem hm;refine qS.2 ⟨i,by rw[jD];exact hi,?_⟩;rw[xm hi];have e:(rwA x l d s).getD i default=⟨pcT x s c,-1,-1⟩:=by rw[gdqA,zG hi];exact he
 rw[e];show (decide (((c:Nat):Int)=(c:Int))&&decide ((pcT x s c).t.text=txA x c))=true;rw[dqt rfl,Bool.true_and,decide_eq_true_iff];obtain⟨a1,a2,a3⟩:=iI h.cv h.co h.sl hc hf;obtain⟨b1,_,b3⟩:=iI h.cv h.co (show 0<x.sig.length from h.co.sg.1) hc hf;unfold pcB at a1 b1;have a1:=of_decide_eq_true a1;have b1:=of_decide_eq_true b1;unfold clT at a2;rw[ine om,ine om]at a2;exact Option.some.inj a2
theorem LP{x:Co}{l:List Un}{d:List Dc}{s:Nat}(h:wt x l d s):pvE x l (bsW (rwA x l d s))=0:=by
 have h1:vaE x l=0:=by
  unfold vaE;rw[ine (λhc=>hc h.ca),ine];unfold rgB;rw[h.us,h.cv];simp
 unfold pvE;have h2:xM (tO x l (bsW (rwA x l d s))) 0 (bsW (rwA x l d s)).length=0:=jk λi hi=>qcn h (by rw[jD]at hi;exact hi)
 rw[h1,h2,ine (by simp),ine (by simp)];refine jk λc hc=> ?_
 unfold qbv;split
 ·rfl
 ·rename_i g;rw[ipo (qcm h hc om)]
theorem XO{x:Co}{l:List Un}{d:List Dc}{o:Dc}{k u j:Nat}(hk:k<d.length)(e1:jN x l (d.getD k default)=u)(e2:jN x l o=u)(hj:j≠u): ∀n,wz x l (d.set k o) j n=wz x l d j n:=by
 intro n
 induction n with
 |zero=>rfl
 |succ n ih=>
  unfold wz;rw[ih]
  by_cases e:n=k
  ·subst e;rw[wX hk,e1,e2]
  ·rw[fF e]
theorem F4{x:Co}{l:List Un}{d:List Dc}{o:Dc}{s k u j:Nat}(hk:k<d.length)(e1:jN x l (d.getD k default)=u)(e2:jN x l o=u)(hj:j≠u):rwU x l d s j=rwU x l (d.set k o) s j:=by
 unfold rwU;rw[List.length_set,XO hk e1 e2 hj];split
 ·rfl
 ·rename_i g;have h1:=xQ x l d j d.length;have h2:jN x l (d.getD (wz x l d j d.length).toNat default)=j:=mU (n:=d.length) om;rw[fF (λe=>by rw[e,e1]at h2;omega)]
def reG(u:Int)(b:List Wd):Nat->List Wd
 |0=> []
 |i+1=>reG u b i++if (b.getD i default).unit=u then [] else [XU (b.getD i default)]
theorem Pz(u:Int)(L:List Rw): ∀n,n<=L.length->reG u (bsW L) n=((L.take n).filter λr=> !decide (r.u=u)).map (mkW none):=by
 intro n
 induction n with
 |zero=>intro _;rfl
 |succ n ih=>
  intro hn;unfold reG;rw[ih om,List.take_add_one,zG hn,Option.toList_some,List.filter_append,List.map_append,xm hn];congr 1;have e:L.getD n default=L[n]:=by rw[gdqA,zG hn];rfl
  rw[e];show (if L[n].u=u then [] else [XU (mkW _ L[n])])=_
  by_cases g:L[n].u=u
  ·rw[ipo g,List.filter_cons_of_neg (by rw[dqt g];simp)];rfl
  ·rw[ine g,List.filter_cons_of_pos (by rw[dqf g];rfl)];unfold XU mkW;simp
theorem PD{x:Co}{l:List Un}{d e:List Dc}{s k:Nat}(h:wt x l d s)(h':wt x l e s)(hk:k<l.length)(hc: ∀j,j<l.length->j≠k->rwU x l d s j=rwU x l e s j):
  reG k (bsW (rwA x l d s)) (bsW (rwA x l d s)).length=reG k (bsW (rwA x l e s)) (bsW (rwA x l e s)).length:=by
 have key: ∀f:List Dc,wt x l f s->reG k (bsW (rwA x l f s)) (bsW (rwA x l f s)).length=((rwF x l f s k).filter (λr=> !decide (r.u=(k:Int)))++(rwE x l f s k).filter (λr=> !decide (r.u=(k:Int)))).map (mkW none):=by
  intro f hf;rw[jD,Pz _ _ _ (nlr _),List.take_length,lK x l f s hk,List.filter_append,List.filter_append];rw[yH (L:=rwU x l f s k) (λr hr=>by rw[dqt (lL hf hk hr).u];rfl),lna]
 rw[key d h,key e h',JU hc hk,JS hc hk]
theorem DX{x:Co}{l:List Un}{d:List Dc}{s:Nat}(h:wt x l d s){i:Nat}(hi:i<(rwA x l d s).length){j:Nat}(hj:j<d.length)(hu:jN x l (d.getD j default)=((rwA x l d s).getD i default).u):(j:Int)<=((rwA x l d s).getD i default).d:=by
 have hm:=zh (a:=default) hi;have hd:=pC hm;obtain⟨_,_,_,_,g4,_⟩:=w9 (h.pl j hj);obtain⟨r,hr⟩:=wD ((rwA x l d s).getD i default)
 rw[<-hr]at hd hu ⊢;unfold dcK at hd;rw[ine om]at hd;rw[hd];refine Int.not_lt.1 λhc=> ?_
 exact ZG j hj hc (by rw[hu];omega)
def unF(x:Co)(r:Nat×Nat):Un:=⟨(r.1:Int),(r.2:Int),dG x r.1 r.2⟩
def rnL(x:Co):List (Nat×Nat):=fa (cmB x) x.col.length
def wI(x:Co):List Un:=(rnL x).map (unF x)
theorem YL(p:Nat->Bool)(n:Nat): ∀d f,(wq p n d f).Pairwise λa b=>a.2<b.1:=by
 intro d
 induction d with
 |zero=>intro f;exact List.Pairwise.nil
 |succ d ih=>
  intro f;unfold wq;split
  ·exact List.Pairwise.nil
  ·rw[List.pairwise_append];refine⟨?_,ih _,λa ha b hb=> ?_⟩
   ·split
    ·exact List.pairwise_singleton _ _
    ·exact List.Pairwise.nil
   ·split at ha
    ·rw[List.mem_singleton]at ha;subst ha
     have:=((f8 p n d (nxt p (n-f) f+1)).1 b hb).1
     show nxt p (n-f) f<b.1;omega
    ·cases ha
theorem bV(x:Co):(wI x).length=(rnL x).length:=by unfold wI;rw[List.length_map]
theorem dj{x:Co}{k:Nat}(hk:k<(rnL x).length):(wI x).getD k default=unF x (rnL x)[k]:=by
 unfold wI;rw[gdqA,List.getElem?_map,zG hk];rfl
theorem JH{x:Co}{k:Nat}(hk:k<(rnL x).length):(rnL x)[k].1<(rnL x)[k].2∧(rnL x)[k].2<=x.col.length∧ ∀c,(rnL x)[k].1<=c->c<(rnL x)[k].2->cmB x c=false:=JO (List.getElem_mem hk)
theorem xI(x:Co):wJ x (wI x)=true:=by
 unfold wJ;rw[Bool.not_eq_true',qr];intro k hk;rw[bV]at hk;rw[Bool.not_eq_false'];obtain⟨h1,h2,_⟩:=JH hk;refine KX.2 ?_;rw[dj hk];have hb:beH (wI x) k<((rnL x)[k].1:Int):=by
  unfold beH;split
  ·omega
  ·rename_i h0;rw[dj (show k-1<(rnL x).length by omega)]
   have:=List.pairwise_iff_getElem.1 (YL (cmB x) x.col.length (x.col.length+1) 0) (k-1) k (by show _<(rnL x).length;omega) hk om
   show ((rnL x)[k-1].2:Int)<_;have this:(rnL x)[k-1].2<(rnL x)[k].1:=this;omega
 refine⟨hb,?_,?_,?_,?_⟩
 ·show (0:Int)<=((rnL x)[k].1:Nat);omega
 ·show ((rnL x)[k].1:Int)<((rnL x)[k].2:Nat);omega
 ·show ((rnL x)[k].2:Int)<=_;omega
 ·show dG x (rnL x)[k].1 (rnL x)[k].2=dG x (((rnL x)[k].1:Nat):Int).toNat (((rnL x)[k].2:Nat):Int).toNat;rw[itn,itn]
theorem Vb(x:Co):cvA x (wI x)=true:=by
 unfold cvA;rw[Bool.not_eq_true',qr];intro c hc;cases h:cmB x c with
 |true=>simp
 |false=>
  obtain⟨r,hr,h1,h2⟩:=pB hc h;obtain⟨k,hk,rfl⟩:=List.getElem_of_mem hr
  have:cvB (wI x) c=true:=by
   unfold cvB;refine qS.2 ⟨k,by rw[bV];exact hk,?_⟩;rw[dj hk,Bool.and_eq_true,decide_eq_true_iff,decide_eq_true_iff];exact⟨by show (((rnL x)[k].1:Nat):Int)<=_;exact Int.ofNat_le.2 h1,by show _<(((rnL x)[k].2:Nat):Int);exact Int.ofNat_lt.2 h2⟩
  rw[this];rfl
theorem Gv{x:Co}(h:coE x=0):vaE x (wI x)=0:=by
 unfold vaE;rw[h,ine (by simp),ine];unfold rgB;rw[xI,Vb];simp
theorem wt.mk0{x:Co}{l:List Un}{s:Nat}(h:vaE x l=0)(hs:s<x.sig.length)(hl:(rwA x l [] s).length<=1024):wt x l [] s:=by
 obtain⟨h1,h2,h3⟩:=dk h;exact⟨h1,h2,h3,hs,by simp,λj hj=>absurd hj (nnz j),hl⟩
theorem nA{x:Co}{l:List Un}{s:Nat}(h:wJ x l=true):(rwA x l [] s).length<=x.col.length:=by
 have:=congrArg List.length (FX (s:=s) h)
 rw[List.length_map]at this;rw[this];exact yt x s 0 _
structure Fo where
 k:Int
 g:Str
 t:Int
def foD(o:Fo):Dc:=⟨o.k,o.g,o.t,[]⟩
def foS(x:Co)(a:Nat)(c:Nat)(o:Fo)(s:Nat):Fo:=
 if (x.col.getD c []).getD s 0<0 then o else if s=a then ⟨1,x.sig.getD s [],(x.col.getD c []).getD s 0⟩ else if o.g= [] then ⟨o.k,x.sig.getD s [],(x.col.getD c []).getD s 0⟩ else o
def foR(x:Co)(a c:Nat)(o:Fo):Nat->Fo
 |0=>o
 |s+1=>foS x a c (foR x a c o s) s
def foC(x:Co)(a f:Nat):Nat->Fo
 |0=>⟨3,[],0⟩
 |d+1=>foR x a (f+d) (foC x a f d) x.sig.length
def foU(x:Co)(a:Nat)(u:Un):Dc:=foD (foC x a u.frm.toNat (u.to.toNat-u.frm.toNat))
def foL(x:Co)(l:List Un)(a:Nat):List Dc:=l.map (foU x a)
theorem Xw{d:List Dc}{j:Nat}(ht: ∀o∈d,o.txt.length<=1000):(d.getD j default).txt.length<=1000:=by
 by_cases hj:j<d.length
 ·exact ht _ (zh hj)
 ·rw[gdqA,List.getElem?_eq_none om];exact nzl _
theorem F3{x:Co}{l:List Un}{d:List Dc}{s k:Nat}(ht: ∀o∈d,o.txt.length<=1000):(rwU x l d s k).length<=(toN l k-frN l k)+1000:=by
 unfold rwU;split
 ·rw[jF]
  have:=yt x s (frN l k) (toN l k-frN l k)
  omega
 ·rw[jF];unfold mn;split
  ·have:=yt x (zM x (d.getD (wz x l d k d.length).toNat default).sig).toNat (frN l k) (toN l k-frN l k)
   omega
  ·split
   ·rw[List.length_map];have h1:=bT (d.getD (wz x l d k d.length).toNat default).txt;have h2:=Xw (j:=(wz x l d k d.length).toNat) ht;omega
   ·exact nzl _
theorem gf(x:Co)(s f t:Nat):(rwC x s f t).length<=t-f:=by
 unfold rwC;rw[jF];exact yt x s f _
theorem gh{x:Co}{l:List Un}{d:List Dc}{s:Nat}(h:wJ x l=true)(ht: ∀o∈d,o.txt.length<=1000): ∀k,k<=l.length->(rwL x l d s k).length<=zx l k+1000*k∧k<=zx l k:=by
 intro k
 induction k with
 |zero=>intro _;exact⟨nzl _,nzl _⟩
 |succ k ih=>
  intro hk;obtain⟨i1,i2⟩:=ih om;have hp:=aW h (show k<l.length by omega);obtain⟨_,_,a3,a4,_⟩:=jO h (show k<l.length by omega);have u:=F3 (x:=x) (l:=l) (s:=s) (k:=k) ht;have c:=gf x s (zx l k) (frN l k);rw[xR];refine⟨?_,om⟩;show (rwL x l d s k++(rwC x s (zx l k) (frN l k)++rwU x l d s k)).length<=_;rw[lap,lap];omega
theorem FV{x:Co}{l:List Un}{d:List Dc}{s:Nat}(h:wJ x l=true)(ht: ∀o∈d,o.txt.length<=1000):(rwA x l d s).length<=1001*x.col.length:=by
 obtain⟨h1,h2⟩:=gh (d:=d) (s:=s) h ht l.length (nlr _);have hp:=xa h (nlr l.length);have c:=gf x s (zx l l.length) x.col.length;unfold rwA;rw[lap];omega
theorem db{x:Co}{l:List Un}{d:List Dc}{s:Nat}(hc:x.col.length<=10000)(ht: ∀o∈d,o.txt.length<=1000)(h:vaE x l=0):(rwA x l d s).length<=1000000000:=by
 have:=FV (d:=d) (s:=s) (dk h).2.1 ht
 omega
end RC
end
section
open Go Go.Proofs AF
def ED:List Nat:= []
@[go_sem]def vM:DT:= DT.one ⟨some 23,none,.app 4 3 64 40,[.t 14,.t 22]⟩ (DT.one ⟨none,none,.store 1,[.t 4,.t 23]⟩ DT.nil)
def qbR:C:=
 (v6 [O1 1 (.box 0 26) 0,ON 2 (.nilo 1 3 64) [],vU 3 0] ((v6 [O1 7 (.load (some 4)) 1,O1 8 (.call 67 true) 7,vV 9 .neq 8 0] (v7 9 (wa [ON 2 (.nilo 1 3 64) [],vU 3 1]))).seq (v6
 [⟨some 4,none,.alloc 2 28 [.nl],[]⟩] (((C.wk.seq (wc [O1 10 (.load (some 4)) 1,O1 11 (.call 89 true) 10])).seq (C.block 0 (C.range (.t 11) [12,13] (v6 [MV 5 12] (wc [MV 6 13]))
 (C.block 1 (C.draw (DT.one ⟨some 15,none,.mv,[.t 5]⟩ (DT.one ⟨some 16,none,.mv,[.t 6]⟩ (DT.one ⟨some 17,none,.load (some 4),[.t 1]⟩ (DT.one ⟨some 18,none,.mv,[.t 5]⟩ (DT.one
 ⟨some 19,none,.mv,[.t 6]⟩ (DT.uni ⟨some 20,none,.call 90 true,[.t 17,.t 18,.t 19]⟩ (DT.one ⟨some 21,none,.build [i6 0,i6 0,.nl] [(0,1),(1,1),(2,1)],[.t 15,.t 16,.t 20]⟩
 ((DT.one ⟨some 14,none,.load none,[.t 4]⟩ (DT.one ⟨some 22,none,.bslc 3 3 1 64 [i6 0,i6 0,.nl] [(0,3)],[.t 21]⟩ vM)).two (DT.one ⟨some 22,none,.bslc 3 3 1 64 [i6 0,i6 0,.nl]
 [(0,3)],[.t 21]⟩ (DT.one ⟨some 14,none,.load none,[.t 4]⟩ vM))))))))))))))).seq (wa [LD 24 4,MV 2 24,vU 3 0])))))
theorem NY:qN Tryz.prog 31 25 5 [RV.tmp 2,RV.tmp 3] qbR:=fi Tryz.f31 [1,2,4,22,23] ED [4]
end
section
open Go Go.Proofs AF HY LN
namespace RC
def utE(x:Co):Int:=if coE x=0 then 0 else 1
def utR(x:Co):List Un:=if coE x=0 then wI x else []
theorem YX{v n:Nat}{L:List Un}{ty:TypeId}{fz:Nat->Bool}{h:w6}{d:Nat}(hn:n=L.length):VLe (mo (some (zE v ty (xZ L))) v 3 0 n (rei fz h (d+1))) (zf L):=by
 subst hn;unfold zE;split
 ·rename_i e
  have:L= []:=by
   cases L with
   |nil=>rfl
   |cons a r=>exact absurd e (by simp[xZ,unC])
  subst this;rw[slOf_emp,ipo rfl];exact qY
 ·rw[slOf_mem,ipo ⟨rfl,by rw[bU];omega⟩];refine VLe.sl_eq rfl (λi hi=> ?_);simp only[Nat.zero_add];rw[pU hi];rfl
theorem Aq(x:Co)(h:w6)(hz:yx x)(hp:kt SG h):ACalls Tryz.prog 31 [.agg (coC x)] h (.tup [zf (utR x),.int .i64 (utE x)]) h:=by
 have c1:=λl'=>coP x (h++l') hz (hp.app l')
 unfold utE utR
 by_cases g:coE x=0
 case neg=>
  have k1:(coE x=0)=False:=eqf g;rw[ine g,ine g];obtain⟨e,he⟩:=wD (coE x)
  rw[<-he]at c1 k1;unfold coC at c1;refine acO NY ?_;simp (disch:=omega) only[qbR,coC,go_sem]
  repeat' first|(refine cA (c1 _) flk ?_;simp (disch:=omega) only[k1,go_sem])|(apply qb;exact rvk;simp only[go_sem])
  exact VLe.tup ⟨qY,qi,trivial⟩
 rw[ipo g,ipo g];simp only[g]at c1;have ho:=kh g;have hn:=hz.cl;have c2:=λh=>qeL x h
 have lx: ∀n v ty,lowO n (.mem v ty (coC x)):=λn v ty=>EJ x n v ty
 unfold coC at c1 c2;refine acO NY ?_;simp (disch:=omega) only[qbR,coC,go_sem]
 repeat' first|(refine cA (c1 _) flk ?_;simp (disch:=omega) only[go_sem])
 refine⟨_,_,Wk.ownNil (j:=h.length+2) (i:=0) (k:=h.length+4) (v:=1) (ty:=28) (cs:= [.nl]) (ve:=0) (sz:=3) ?m1 rfl ?m2,?_⟩
 case m1=>simp only[go_sem]
 case m2=>simp only[go_sem]
 simp (disch:=omega) only[List.set_cons_zero,go_sem]
 repeat' first|(refine cA (c2 _) flk ?_;simp (disch:=omega) only[go_sem])
 have hrl:=np x;have hrg:=λi hi=>JI (x:=x) (i:=i) hi
 have hul:(wI x).length=(fa (cmB x) x.col.length).length:=bV x;have hue:=λi (hi:i<(fa (cmB x) x.col.length).length)=>dj (x:=x) (k:=i) hi
 have hin:=λi (hi:i<(fa (cmB x) x.col.length).length)=>JH (x:=x) (k:=i) hi
 have hle:(wI x).length<=1000000000:=by
  have h1:=gh (s:=0) (xI x) (d:= []) (by simp) (wI x).length (nlr _);have h2:=xa (xI x) (nlr (wI x).length);omega
 unfold rnL at hue hin;obtain⟨rs,hrs⟩:=wD (fa (cmB x) x.col.length)
 simp only[<-hrs]at hrl hrg hul hue hin;obtain⟨L,hL⟩:=wD (wI x)
 simp only[<-hL]at hul hue hle ⊢;obtain⟨X0,hX0⟩:=wD (AObj.mem 1 26 [.str x.sec,strs x.sig,qm x.tok,qo x.col])
 refine zJ (xs:=rnX x) (itR x ho hn) (JJ x)
  (S:=λi hh=> ∃w O1,qK [O1] 0=true∧(∀n,lowO n O1)∧hh=h++ [.mem 1 26 (coC x),.emp 1,.mem 1 28 [.osl (h.length+4) w 3 0 i],O1,zE w 64 (xZ (L.take i))])
  (E:=λ_ _=>False) ?e1 (λ_ _ h=>h.elim) ?e2 ?e3 ?e4 ?e5 (λ_ _ h=>h.elim)
 case e1=>
  rintro i hh ⟨w,O1,_,l1,rfl⟩;refine LowI.app rfl (λo ho=> ?_);simp only[List.mem_cons,List.not_mem_nil,or_false]at ho;rcases ho with rfl|rfl|rfl|rfl|rfl
  ·left;simp[coC]
  ·left;simp
  ·right;constructor<;>(intro c hc;simp only[List.mem_cons,List.not_mem_nil,or_false]at hc;rcases hc with rfl;simp[ze])
  ·right;exact⟨l1 _,l1 _⟩
  ·right;exact⟨ju (gX _ _),ju (gX _ _)⟩
 case e2=>exact⟨0,.emp 0,rfl,λ_=>trivial,rfl⟩
 case e3=>
  have lt: ∀n,ze n (qm x.tok)=true:=λ_=>rfl
  have lc: ∀n,ze n (qo x.col)=true:=λ_=>rfl
  simp[ze,ze.lowVs,lt,lc,pd]
  try omega
 case e4=>
  rintro i hh tl LI TS hi ⟨w,O1,p1,l1,rfl⟩ hlen K4 K5 hK4 hN hR' hX;rw[hrg i hi];rw[hrl]at hi;have e5:=hue i hi;obtain⟨f1,f2,_⟩:=hin i hi;have e6:rs.getD i (0,0)=rs[i]:=by rw[gdqA,zG hi];rfl
  rw[e6];have p1': ∀m,qK (O1::m) 0=true:=λ_=>p1
  have hTk:L.take (i+1)=L.take i++ [L.getD i default]:=by
   rw[List.take_add_one,zG om,gdqA,zG om];rfl
  rw[e5]at hTk;have hTl:(L.take i).length=i:=by rw[List.length_take];omega
  have eVl:=bU (L.take i);rw[hTl]at eVl;have eVk:List.take (i*3) (xZ (L.take i))=xZ (L.take i):=ltl om;obtain⟨⟨f,t⟩,hr⟩: ∃r,r=rs[i]:=⟨_,rfl⟩
  rw[<-hr]at hTk f1 f2 ⊢;have eVn:xZ (L.take (i+1))=xZ (L.take i)++ [.int .i64 (f:Int),.int .i64 (t:Int),j6 (dG x f t)]:=by rw[hTk,An,Ao];rfl
  have c48:=λh=>qeK x f t h ho f2 hn
  unfold coC at c48;have zr: ∀X,(j6 X).cells= [j6 X]:=λ_=>rfl
  have zm:List.drop 3 (zU [AV.int .i64 0,.int .i64 0,.nl] 1)= []:=rfl;have hi9:((i:Int)+1)*24<=140737488355328:=by omega
  simp only[kA];simp (disch:=omega) only[List.append_assoc,coC,go_sem];refine hK4 _ _ (h++ [.mem 1 26 (coC x),.emp 1,.mem 1 28 [.osl (h.length+4) w 3 0 i],O1,zE w 64 (xZ (L.take i))]) (by simp[coC]) (by simp) ?_;simp (disch:=omega) only[List.append_assoc,coC,go_sem];refine jL ?T ?H ?h1 ?h2
  case h1=>
   simp (disch:=omega) only[go_sem]
   repeat' first|(refine cU (λ_=>c48 _) flk ?_;simp (disch:=omega) only[p1',eVl,eVk,List.set_cons_zero,zr,zm,go_sem])|with_reducible apply aiA
   all_goals first
    |omega
    |rfl
    |(rw[bne_iff_ne];omega)
    |skip
  case h2=>
  simp (disch:=omega) only[go_sem];refine hN _ _ (h++ [.mem 1 26 (coC x),.emp 1,.mem 1 28 [.osl (h.length+4) (w+1) 3 0 (i+1)],.mem (qn (some O1)+1) 64 [.int .i64 (f:Int),.int .i64 (t:Int),j6 (dG x f t)],zE (w+1) 64 (xZ (L.take (i+1)))]) (by rw[eVn];simp[coC]) (by simp)
   ⟨w+1,_,rfl,?lw,rfl⟩
  case lw=>
  intro n c hc;simp only[List.mem_cons,List.not_mem_nil,or_false]at hc;rcases hc with rfl|rfl|rfl<;>rfl
 case e5=>
  rintro hh ⟨w,O1,p1,l1,rfl⟩;rw[hrl,<-hul,List.take_length];simp (disch:=omega) only[go_sem]
  repeat' first|(apply qb;exact rvk;simp only[go_sem])|with_reducible apply aiA|exact clz|fail
  exact VLe.tup ⟨YX rfl,qi,trivial⟩
end RC
end
section
open Go Go.Proofs AF
end
section
open Go Go.Proofs AF HY LN
namespace RC
end RC
end
section
namespace Go.Proofs
open Go.Shelf
end Go.Proofs
end
section
open Go Go.Proofs AF HY LN
namespace RC
def soE(x:Co)(l:List Un)(b:List Wd)(i:Int):Int:=if pvE x l b≠0 then pvE x l b else if i<0∨(b.length:Int)<=i then 2 else 0
def soL(x:Co)(l:List Un)(b:List Wd)(i:Int):List Int:=if soE x l b i=0 then soK x l b i.toNat else []
def agE(x:Co)(l:List Un)(b:List Wd)(s:Int):Int:=if pvE x l b≠0 then pvE x l b else if s<0∨(x.sig.length:Int)<=s then 2 else 0
def agB(l:List Un)(b:List Wd)(s:Int)(u:Nat):Bool:=decide (((l.getD u default).rds.getD (dF (l.getD u default).rds s).toNat default).words=owG b (u:Int) b.length)
def agN(x:Co)(l:List Un)(b:List Wd)(s:Int):Int:=if agE x l b s=0 then (cP (agB l b s) l.length:Int) else 0
def agM(x:Co)(l:List Un)(b:List Wd)(s:Int):Int:=if agE x l b s=0 then (l.length:Int) else 0
theorem Jw{x:Co}{l:List Un}{b:List Wd}(h:pvE x l b=0){i:Nat}(hi:i<b.length): -1<=(b.getD i default).unit∧(b.getD i default).unit<(l.length:Int):=by
 have hu:=(Jv h).un2 i hi
 have:=yk l (b.getD i default).col
 omega
theorem qdn{x:Co}{l:List Un}{b:List Wd}(h:pvE x l b=0):vaE x l=0:=by
 unfold pvE at h;split at h
 ·rename_i h1;exact absurd h h1
 ·rename_i h1;exact Classical.not_not.1 h1
theorem dc(x:Co)(l:List Un)(b:List Wd)(i:Int)(h:w6)(hz:yx x)(hu:bo l)(hb:b.length<=1000000)(ht: ∀i,(b.getD i default).text.length<=1000000000)(hn:x.sig.length<=1000000)(hp:kt SG h):
  ACalls Tryz.prog 19 [.agg (coC x),zf l,zV b,.int .i64 i] h (.tup [qz (soL x l b i),.int .i64 (soE x l b i)]) h:=by
 have c38:=λl'=>pvP x l b (h++l') hz hu om ht (hp.app l')
 have z1: ∀g,valL g .len [zV b]= .int .i64 b.length:=λ_=>rfl
 have z2: ∀g,okL g .len [zV b]=True:=λ_=>eqt trivial
 have nl0:VLe AV.nl (qz []):=qY;obtain⟨E,hE⟩:=wD (soE x l b i)
 have hL:soL x l b i=if E=0 then soK x l b i.toNat else []:=by rw[hE];rfl
 rw[hL,<-hE];unfold soE at hE;unfold coC at c38
 by_cases g1:pvE x l b=0
 case neg=>
  rw[ipo g1]at hE;rw[hE,ine g1];have k1:(pvE x l b=0)=False:=eqf g1;refine acO Xd ?_;simp (disch:=omega) only[Ix,coC,go_sem]
  repeat' first|(refine cA (c38 _) flk ?_;simp (disch:=omega) only[k1,go_sem])|(apply qb;exact rvk;simp only[go_sem])
  exact fg ⟨nl0,qi,trivial⟩
 rw[ine (λhc=>hc g1)]at hE;simp only[g1]at c38
 by_cases g2:i<0
 ·have k2:(i<0)=True:=eqt g2;rw[ipo (.inl g2)]at hE;rw[hE,ine (by decide)];refine acO Xd ?_;simp (disch:=omega) only[Ix,coC,go_sem]
  repeat' first|(refine cA (c38 _) flk ?_;simp (disch:=omega) only[z1,z2,k2,go_sem])|(apply qb;exact rvk;simp only[go_sem])
  exact fg ⟨nl0,qi,trivial⟩
 have k2:(i<0)=False:=eqf g2
 by_cases g3:(b.length:Int)<=i
 ·have k3:((b.length:Int)<=i)=True:=eqt g3;rw[ipo (.inr g3)]at hE;rw[hE,ine (by decide)];refine acO Xd ?_;simp (disch:=omega) only[Ix,coC,go_sem]
  repeat' first|(refine cA (c38 _) flk ?_;simp (disch:=omega) only[z1,z2,k2,k3,go_sem])|(apply qb;exact rvk;simp only[go_sem])
  exact fg ⟨nl0,qi,trivial⟩
 have k3:((b.length:Int)<=i)=False:=eqf g3;rw[ine (λhc=>hc.elim g2 g3)]at hE;rw[hE,ipo rfl];obtain⟨j,rfl⟩: ∃j:Nat,i=(j:Int):=⟨i.toNat,om⟩
 rw[itn];have c84:=λh=>Rh x l b j h hu hb om hn (Jw g1 om).2
 unfold coC at c84;refine acO Xd ?_;simp (disch:=omega) only[Ix,coC,go_sem]
 repeat' first|((first|refine cA (c38 _) ?_ ?_|refine cA (c84 _) ?_ ?_);exact flk;simp (disch:=omega) only[z1,z2,k2,k3,go_sem])|exact wj|fail
theorem Yy{x:Co}{l:List Un}(ho:qbE x l){u:Nat}(hul:u<l.length){s:Int}(h1:0<=s)(h2:s<x.sig.length):0<=lE (l.getD u default).rds s∧lE (l.getD u default).rds s<(l.getD u default).rds.length∧dF (l.getD u default).rds s=lE (l.getD u default).rds s∧s∈((l.getD u default).rds.getD (lE (l.getD u default).rds s).toNat default).src:=by
 have hmem:l.getD u default∈l:=by rw[gdqA,zG hul];exact List.getElem_mem hul
 have hr:=(ho.rg _ hmem).2.2.2;obtain⟨j,j1,j2⟩:=(fX x (l.getD u default).frm.toNat (l.getD u default).to.toNat).has s.toNat om;rw[<-hr]at j1 j2;have es:((s.toNat:Nat):Int)=s:=by omega
 rw[es]at j2;have hb:lE (l.getD u default).rds s=yM (λj=>decide (s∈((l.getD u default).rds.getD j default).src)) (l.getD u default).rds.length 0:=rfl;rcases zI (λj=>decide (s∈((l.getD u default).rds.getD j default).src)) (l.getD u default).rds.length with⟨i,h3,h4,_,h6⟩|⟨h3,_⟩
 ·rw[<-hb]at h6;have h7:dF (l.getD u default).rds s=lE (l.getD u default).rds s:=by unfold dF;rw[ine om]
  refine⟨om,om,h7,?_⟩;rw[h6,itn];exact of_decide_eq_true h4
 ·exact absurd j2 (of_decide_eq_false (h3 j j1))
theorem Hv(x:Co)(l:List Un)(b:List Wd)(s:Int)(h:w6)(hz:yx x)(hu:bo l)(hb:b.length<=1000000)(ht: ∀i,(b.getD i default).text.length<=1000000000)(hn:x.sig.length<=1000000)(hp:kt SG h):
  ACalls Tryz.prog 38 [.agg (coC x),zf l,zV b,.int .i64 s] h (.tup [.int .i64 (agN x l b s),.int .i64 (agM x l b s),.int .i64 (agE x l b s)]) h:=by
 have c38:=λl'=>pvP x l b (h++l') hz hu om ht (hp.app l')
 have z1: ∀g,valL g .len [strs x.sig]= .int .i64 x.sig.length:=λ_=>rfl
 have z2: ∀g,okL g .len [strs x.sig]=True:=λ_=>eqt trivial
 have zu:zf l= .sl l.length λi=>unC (l.getD i default):=rfl
 obtain⟨E,hE⟩:=wD (agE x l b s)
 have hN:agN x l b s=if E=0 then (cP (agB l b s) l.length:Int) else 0:=by rw[hE];rfl
 have hM:agM x l b s=if E=0 then (l.length:Int) else 0:=by rw[hE];rfl
 rw[hN,hM,<-hE];unfold agE at hE;unfold coC at c38
 by_cases g1:pvE x l b=0
 case neg=>
  rw[ipo g1]at hE;rw[hE,ine g1,ine g1];have k1:(pvE x l b=0)=False:=eqf g1;refine acO Xf ?_;simp (disch:=omega) only[La,coC,go_sem]
  repeat' first|(refine cA (c38 _) flk ?_;simp (disch:=omega) only[k1,go_sem])|exact wj|fail
 rw[ine (λhc=>hc g1)]at hE;simp only[g1]at c38
 by_cases g2:s<0
 ·have k2:(s<0)=True:=eqt g2;rw[ipo (.inl g2)]at hE;rw[hE,ine (by decide),ine (by decide)];refine acO Xf ?_;simp (disch:=omega) only[La,coC,go_sem]
  repeat' first|(refine cA (c38 _) flk ?_;simp (disch:=omega) only[z1,z2,k2,go_sem])|exact wj|fail
 have k2:(s<0)=False:=eqf g2
 by_cases g3:(x.sig.length:Int)<=s
 ·have k3:((x.sig.length:Int)<=s)=True:=eqt g3;rw[ipo (.inr g3)]at hE;rw[hE,ine (by decide),ine (by decide)];refine acO Xf ?_;simp (disch:=omega) only[La,coC,go_sem]
  repeat' first|(refine cA (c38 _) flk ?_;simp (disch:=omega) only[z1,z2,k2,k3,go_sem])|exact wj|fail
 have k3:((x.sig.length:Int)<=s)=False:=eqf g3;rw[ine (λhc=>hc.elim g2 g3)]at hE;rw[hE,ipo rfl,ipo rfl];clear hE hN hM;have hok:=Jv g1;have huo:=aN hok.un;have hva:vaE x l=0:=qdn g1;have hln:=hu.n;refine acO Xf ?_;simp (disch:=omega) only[La,coC,zu,go_sem]
 repeat' first|(refine cA (c38 _) flk ?_;simp (disch:=omega) only[z1,z2,k2,k3,go_sem])
 refine qp (T:=λu:Nat=>zw 73 [(1,zf l),(2,zV b),(3,.int .i64 s),(4,.op h.length 1 0),(12,.int .i64 (cP (agB l b s) u)),(35,.int .i64 l.length),(36,.int .i64 u)])
  (H:=λ_=>h++ [.mem 1 26 [.str x.sec,strs x.sig,qm x.tok,qo x.col]]) (inv:=λu=>u<=l.length) (m:=λu=>l.length-u) 0 (nzl _) (Wk.temps ?_) ?_
 ·(simp only[zu,cP,go_sem,qg,qc,qa,qf];try exact wr)
 intro u u1 K hK
 by_cases hul:u<l.length
 ·have r1:((u:Int)<l.length)=True:=xv;have r0:(0<=(u:Int))=True:=xv;obtain⟨q1,q2,q3,q4⟩:=Yy huo hul (s:=s) om om;have hst:cP (agB l b s) (u+1)=cP (agB l b s) u+if agB l b s u=true then 1 else 0:=rfl
  have hag:agB l b s u=decide (((l.getD u default).rds.getD (dF (l.getD u default).rds s).toNat default).words=owG b (u:Int) b.length):=rfl;have c63:=λh=>qfS (l.getD u default) s h (hu.rd u) (hu.sr u)
  have c58:=λl'=>rdD x l b u (h++l') hz hu hb (hp.app l') hok.co hva hul
  have hwl:=hu.wd u (dF (l.getD u default).rds s).toNat;have hol:=BV b (u:Int) b.length;rw[q3]at hag hwl;obtain⟨k,hk⟩: ∃k:Nat,lE (l.getD u default).rds s=(k:Int):=⟨(lE (l.getD u default).rds s).toNat,om⟩
  rw[hk]at q1 q2 q3;simp only[q3]at c63;rw[hk,itn]at hag hwl;obtain⟨W,hW⟩:=wD (owG b (u:Int) b.length)
  rw[<-hW]at hag hol;simp only[<-hW]at c58;obtain⟨v,hv⟩:=wD (l.getD u default)
  have ev:=hv.symm;simp only[ev]at c63;rw[ev]at hag hwl q2;have zr:j6 v.rds= .sl v.rds.length λi=>rdC (v.rds.getD i default):=rfl
  have r2:((k:Int)<v.rds.length)=True:=xv;have r3:(0<=(k:Int))=True:=xv;obtain⟨r,hr⟩:=wD (v.rds.getD k default)
  have er:=hr.symm;rw[er]at hag hwl;have c53:=λh=>qbx r.words W h om om
  rw[<-hag]at c53;unfold coC at c58;unfold unC at c63;obtain⟨C,hC⟩:=wD (cP (agB l b s) u)
  rw[<-hC]at hst;have hcl:C<=l.length:=by have:=qb0 (agB l b s) u;omega
  cases hA:agB l b s u with
  |true=>
   rw[hA]at hst c53;rw[ipo rfl]at hst;rw[<-hC];simp (disch:=omega) only[zu,unC,r0,r1,ev,go_sem]
   repeat' first|((first|refine cA (c63 _) ?_ ?_|refine cA (c58 _) ?_ ?_|refine cA (c53 _) ?_ ?_);exact flk;simp (disch:=omega) only[r0,r1,ev,zr,rdC,r2,r3,er,go_sem])|with_reducible apply aiA|exact clz|fail
   refine hK _ _ (u+1) hul om (Wk.temps ?_);rw[hst]
   (simp only[zu,go_sem,qg,qc,qa,qf];try exact wr)
  |false=>
   rw[hA]at hst c53;rw[ine (by simp),Nat.add_zero]at hst;rw[<-hC];simp (disch:=omega) only[zu,unC,r0,r1,ev,go_sem]
   repeat' first|((first|refine cA (c63 _) ?_ ?_|refine cA (c58 _) ?_ ?_|refine cA (c53 _) ?_ ?_);exact flk;simp (disch:=omega) only[r0,r1,ev,zr,rdC,r2,r3,er,go_sem])|with_reducible apply aiA|exact clz|fail
   refine hK _ _ (u+1) hul om (Wk.temps ?_);rw[hst]
   (simp only[zu,go_sem,qg,qc,qa,qf];try exact wr)
 obtain rfl:u=l.length:=by omega
 have r1:((l.length:Int)<l.length)=False:=xD;simp (disch:=omega) only[zu,r1,go_sem]
 repeat' first|exact wj|fail
theorem BH{L:List Rd}{r:Nat}(hr:r<L.length):L.getD r default∈L:=by rw[gdqA,zG hr];exact List.getElem_mem hr
theorem Zs{x:Co}{l:List Un}{b:List Wd}(ho:qbE x l){u:Nat}(hul:u<l.length):(hsK l b u).length<=x.sig.length:=by
 have hmem:l.getD u default∈l:=by rw[gdqA,zG hul];exact List.getElem_mem hul
 have hri:im (l.getD u default).rds x.sig.length:=by rw[(ho.rg _ hmem).2.2.2];exact bO _ _ _
 have hlt:=mA l b u;unfold hsK;split
 ·rename_i h0;have hr:(brK l b u).toNat<(l.getD u default).rds.length:=by omega
  have h1:=hri.src ((l.getD u default).rds.getD (brK l b u).toNat default) (BH hr);have h2:=mu (hi:=((x.sig.length:Nat):Int)) (lo:=0) h1.1 h1.2;omega
 ·exact nzl _
end RC
end
section
open Go Go.Proofs AF
end
section
open Go Go.Proofs AF HY LN
namespace RC
structure QZ where
 i:Nat
 w:Nat
 O:AObj
end RC
end
section
open Go Go.Proofs AF
end
section
open Go Go.Proofs AF HY LN
namespace RC
theorem J7{x:Co}{l:List Un}{b:List Wd}(g:pvE x l b=0){i:Nat}(hi:i<b.length):(soK x l b i).length<=x.sig.length∧ ∀s∈soK x l b i,0<=s∧s<x.sig.length:=by
 have hok:=Jv g;have huo:=aN hok.un;obtain⟨p1,p2⟩:=Jw g hi;unfold soK;split
 ·refine⟨Nat.le_of_eq (fh _),λs hs=> ?_⟩;unfold tP at hs;obtain⟨k,hk,rfl⟩:=List.mem_map.1 hs
  have:=List.mem_range.1 hk
  omega
 ·have hul:(b.getD i default).unit.toNat<l.length:=by omega
  refine⟨Zs huo hul,λs hs=> ?_⟩;have hmem:l.getD (b.getD i default).unit.toNat default∈l:=by rw[gdqA,zG hul];exact List.getElem_mem hul
  have hri:im (l.getD (b.getD i default).unit.toNat default).rds x.sig.length:=by rw[(huo.rg _ hmem).2.2.2];exact bO _ _ _
  have hlt:=mA l b (b.getD i default).unit.toNat;unfold hsK at hs;split at hs
  ·exact (hri.src _ (BH om)).2 s hs
  ·cases hs
structure XZ where
 i:Nat
 v:Nat
 O:AObj
def sD:Str:= [101,114,97,116]
def yL:List Un:= [⟨1,2,[⟨[qbz],[0]⟩,⟨[sD],[1]⟩]⟩]
def yD:List Dc:= [⟨1,[66],1,[]⟩]
def yB:List Wd:= [⟨gv,0,-1,-1,false,false,[]⟩,⟨sD,1,0,0,false,false,[]⟩]
end RC
end
section
open Go Go.Proofs AF
def Ez:List Nat:= []
def qef:C:=
 (v6 [MC 2 (.bool false)] ((v6 [vU 3 0] (C.block 0 ((wg 4 3 0 0).seq ((C.block 1 (v6 [MV 10 0,MV 11 3,O2 12 (.idxA 4) 10 11,vT 13 1 12,LD 14 13,O1 15 .slen 14,vV 16 .gtr 15 30,MV
 17 16,vY 18 17 0,vY 19 17 3,vX 20 17 (.idxA 4) 18 19,wh 21 17 3 20,wi 22 17 21,vW 23 17 .slen 22,vZ 24 17 (.bin .gtr) 23 (i6 30),PT 25 17 24] (v7 25 (wa [MC 2 (.bool
 true)])))).seq (we 8 3))).loop)).seq (wa [MV 26 0,O1 27 .len 26,vV 28 .gtr 27 6,MV 2 28])))
theorem qcv:qN Tryz.prog 23 29 0 [RV.tmp 2] qef:=fi Tryz.f23 [] Ez []
end
section
open Go Go.Proofs AF HY LN
namespace RC
def gDc(d:List Dc)(i:Nat):Bool:=decide (30<(d.getD i default).sig.length)||decide (30<(d.getD i default).txt.length)
def Xu(d:List Dc):Bool:=jx (gDc d) d.length||decide (6<d.length)
theorem Ot(b:List Dc)(h:w6)(hn:b.length<=9223372036854775807):ACalls Tryz.prog 23 [jG b] h (.bool (Xu b)) h:=by
 obtain⟨R,hR⟩:=wD (Xu b)
 rw[<-hR];unfold Xu at hR;have zb:jG b= .sl b.length λi=>dcC (b.getD i default):=rfl
 refine acO qcv ?_;simp (disch:=omega) only[qef,go_sem];refine qp (T:=λi:Nat=>zw 29 [(0,jG b),(3,.int .i64 i)]) (H:=λ_=>h) (inv:=λi=>i<=b.length∧ ∀j,j<i->gDc b j=false) (m:=λi=>b.length-i) 0 ⟨nzl _,λj hj=>absurd hj (nnz j)⟩ (Wk.temps ?_) ?_
 ·(simp only[go_sem,qg,qc,qa,qf];try exact wr)
 rintro i ⟨i1,i2⟩ K hK
 by_cases hi:i<b.length
 ·have k1:((i:Int)<b.length)=True:=xv;have k0:(0<=(i:Int))=True:=xv;have hit:gDc b i=true->R=true:=λhc=>by rw[hR,qS.2 ⟨i,hi,hc⟩];rfl
  have i3:=λhc=>xJ (p:=gDc b) i2 hc
  have hG:gDc b i=(decide (30<(b.getD i default).sig.length)||decide (30<(b.getD i default).txt.length)):=rfl;obtain⟨w,hw⟩:=wD (b.getD i default)
  have ew:=hw.symm;rw[ew]at hG
  by_cases g1:30<w.sig.length
  ·have q1:((30:Int)<w.sig.length)=True:=xv;rw[hit (by rw[hG,dqt g1];rfl)];simp (disch:=omega) only[zb,dcC,k0,k1,ew,q1,go_sem]
   repeat' first|exact wm|fail
  have q1:((30:Int)<w.sig.length)=False:=xD
  by_cases g2:30<w.txt.length
  ·have q2:((30:Int)<w.txt.length)=True:=xv;rw[hit (by rw[hG,dqt g2,Bool.or_true])];simp (disch:=omega) only[zb,dcC,k0,k1,ew,q1,q2,go_sem]
   repeat' first|exact wm|with_reducible apply aiA|exact clz|fail
  have q2:((30:Int)<w.txt.length)=False:=xD;simp (disch:=omega) only[zb,dcC,k0,k1,ew,q1,q2,go_sem]
  repeat' first|with_reducible apply aiA|exact clz|fail
  refine hK _ _ (i+1) ⟨hi,i3 (by rw[hG,dqf g1,dqf g2];rfl)⟩ om (Wk.temps ?_)
  (simp only[zb,dcC,go_sem,qg,qc,qa,qf];try exact wr)
 obtain rfl:i=b.length:=by omega
 have k1:((b.length:Int)<b.length)=False:=xD;rw[qr.2 (λj hj=>i2 j hj),Bool.false_or]at hR
 by_cases g:6<b.length
 ·have q:((6:Int)<b.length)=True:=xv;rw[dqt g]at hR;rw[hR];simp (disch:=omega) only[zb,k1,q,go_sem]
  repeat' first|exact wm|fail
 ·have q:((6:Int)<b.length)=False:=xD;rw[dqf g]at hR;rw[hR];simp (disch:=omega) only[zb,k1,q,go_sem]
  repeat' first|exact wm|fail
theorem fE{d:List Dc}(h:Xu d=false):d.length<=6∧(∀j,(d.getD j default).sig.length<=30)∧ ∀o∈d,o.txt.length<=30:=by
 unfold Xu at h;rw[Bool.or_eq_false_iff,decide_eq_false_iff_not]at h;have key: ∀i,i<d.length-> ¬30<(d.getD i default).sig.length∧ ¬30<(d.getD i default).txt.length:=λi hi=>by
  have:=qr.1 h.1 i hi
  unfold gDc at this;rw[Bool.or_eq_false_iff,decide_eq_false_iff_not,decide_eq_false_iff_not]at this;exact this
 refine⟨om,jp d (λd=>d.sig.length<=30) (by decide) λi hi=>by have:=(key i hi).1;omega,λo ho=> ?_⟩;obtain⟨i,hi,rfl⟩:=List.getElem_of_mem ho
 have:=(key i hi).2
 rw[gdqA,zG hi]at this;simp only[Option.getD_some]at this;omega
structure Cq where
 x:Co
 l:List Un
 d:List Dc
 lead:Int
structure CqB (a:Cq):Prop where
 x:CoB a.x
 l:UnB a.l
 d:a.d.length<=9223372036854775807
structure CqS (a:Cq):Prop where
 x:yx a.x
 l:bo a.l
 cl:a.x.col.length<=24
 sl:a.x.sig.length<=36
 ll:a.l.length<=12
 d:a.d.length<=6
 g: ∀j,(a.d.getD j default).sig.length<=30
 t: ∀o∈a.d,o.txt.length<=30
end RC
end
