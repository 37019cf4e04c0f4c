import Derived.Test.YtmieflnoheifbaaGreatDoorK17
import Derived.Test.YtmieflnoheifbaaGreatDoorK9
import Derived.Test.YtmieflnoheifbaaGreatDoorK3
import Derived.Test.YtmieflnoheifbaaGreatDoorK5
import Derived.Test.YtmieflnoheifbaaGreatDoorK8
import Derived.Test.YtmieflnoheifbaaGreatDoorProg
import Derived.Test.YtmieflnoheifbaaGreatDoorK16
import Derived.Test.YtmieflnoheifbaaGreatDoorK15
import Derived.Test.YtmieflnoheifbaaGreatDoorK14
import Derived.Test.YtmieflnoheifbaaGreatDoorK12
import Derived.Test.YtmieflnoheifbaaGreatDoorRows
import Derived.LaidLaws
import Derived.OpenShut
set_option linter.all false
set_option maxHeartbeats 256000000
set_option maxRecDepth 100000
section
open Go Go.Proofs AF HY LN
namespace RC
theorem qfm{s:Str}{i:Nat}(hi:i<s.length):s.take (i+1)=s.take i++ [ch s i]:=by
 rw[List.take_add_one,zz hi];unfold ch;rw[gdqA,zz hi];rfl
def wdF(s:Str)(i n:Nat):Str:=(s.drop i).take n
theorem qb1{s:Str}{i n:Nat}(h:i+n<s.length):wdF s i (n+1)=wdF s i n++ [ch s (i+n)]:=by
 unfold wdF ch;rw[List.take_add_one,List.getElem?_drop,gdqA,zz h];rfl
theorem qnQ{s:Str}{i:Nat}(hi:i<s.length)(ho:(bsL (s.take i)).opn=true->kY (ch s i)=false)(hb:bgn (ch s i)=true): ∀n,i+n+1<=s.length->(∀k,k<n->kY (ch s (i+1+k))=true)->
  bsL (s.take (i+n+1))=⟨(bsL (s.take i)).fin,true,jfl (bsL (s.take i)).jn (bsL (s.take i)).fin.length,wdF s i (n+1),true⟩:=by
 intro n
 induction n with
 |zero=>
  intro _ _;show bsL (s.take (i+1))=_;rw[qfm hi,qas];have e:wdF s i (0+1)= [ch s i]:=by
   rw[qb1 om];rfl
  rw[e];unfold Bs.stp;rw[ine (λq=>by rw[ho q.1]at q;cases q.2),ipo hb]
 |succ n ih=>
  intro hn hk;have h1:=ih om (λk hk2=>hk k om);rw[show i+(n+1)+1=(i+n+1)+1 by omega,qfm om,qas,h1];unfold Bs.stp;have h2:=hk n om;rw[show i+1+n=i+n+1 by omega]at h2;rw[ipo ⟨rfl,h2⟩,qb1 (n:=n+1) om];rfl
def fnT(b:Bs):List Tk:=b.fin.map tkN
theorem qnB{P:Program}{b:Nat}{x:C}{N:Nx}{Q:Ex->Nx}{t:wj}{h:wh}(I:wj->wh->Prop)(hy: ∀t h,I t h->N t h)
  (hx: ∀K:Nx,(∀t h,I t h->K t h)->qV P b x (Ex.andThen K Q) t h):qV P b x (Ex.andThen N Q) t h:=hx N hy
theorem qEz(s:Str)(h:wh)(hs:s.length<=1000000)(hz: ∀i,i<s.length->(ch s i).toNat≠0):ACalls Tryz.prog 235 [qfJ s] h (zJ (qbX s)) h:=by
 have z1: ∀g,valL g .len [qfJ s]= .int .i64 s.length:=λ_=>rfl
 have z2: ∀g,okL g .len [qfJ s]=True:=λ_=>eqt trivial
 have zf:(qfJ s).flag=True:=eqt rfl;have z0:qfJ s= .sl s.length λi=>sgC (ch s i):=rfl
 refine acO qx1 ?_;unfold qwd;generalize hSW:C.block 2 _=SW;simp (disch:=omega) only[go_sem];refine qn (T:=λi:Nat×Nat×AObj×AObj×AObj×AObj×AObj×AObj=>qO 160 [(0,qfJ s),(3,.osl (h.length+1) i.2.1 6 0 (fnT (bsL (s.take i.1))).length),(4,.bool (bsL (s.take i.1)).jn),(5,.bool false),(6,.int .i64 (i.1:Int))])
  (H:=λi=>h++ [.emp 1,zg i.2.1 119 (zW (fnT (bsL (s.take i.1)))),i.2.2.1,i.2.2.2.1,i.2.2.2.2.1,i.2.2.2.2.2.1,i.2.2.2.2.2.2.1,i.2.2.2.2.2.2.2,.emp 0])
  (inv:=λi=>(i.1<=s.length∧((bsL (s.take i.1)).opn=true->i.1<s.length->kY (ch s i.1)=false))∧qy [i.2.2.1] 0=true∧qy [i.2.2.2.1] 0=true∧qy [i.2.2.2.2.1] 0=true∧qy [i.2.2.2.2.2.1] 0=true∧qy [i.2.2.2.2.2.2.1] 0=true∧qy [i.2.2.2.2.2.2.2] 0=true)
  (m:=λi=>s.length-i.1) (0,1,.emp 0,.emp 0,.emp 0,.emp 0,.emp 0,.emp 0) ⟨⟨nzl _,λe=>(by cases e)⟩,rfl,rfl,rfl,rfl,rfl,rfl⟩ (Wk.temps ?_) ?_
 ·(simp only[List.take_zero,go_sem,qf,qc,qa,qe];try exact we)
 rintro⟨i,v,O1,O2,O3,O4,O5,O6⟩ ⟨⟨i1,i2⟩,s1,s2,s3,s4,s5,s6⟩ K hK;simp only at i1 i2 s1 s2 s3 s4 s5 s6 hK;have s1': ∀m,qy (O1::m) 0=true:=λ_=>s1
 have s2': ∀m,qy (O2::m) 0=true:=λ_=>s2
 have s3': ∀m,qy (O3::m) 0=true:=λ_=>s3
 have s4': ∀m,qy (O4::m) 0=true:=λ_=>s4
 have s5': ∀m,qy (O5::m) 0=true:=λ_=>s5
 have s6': ∀m,qy (O6::m) 0=true:=λ_=>s6
 by_cases hi:i<s.length
 case neg=>
  have k1:((i:Int)<s.length)=False:=wm;obtain rfl:i=s.length:=by omega
  rw[List.take_length];have e:fnT (bsL s)=qbX s:=rfl;rw[e];simp (disch:=omega) only[k1,z0,go_sem]
  repeat' first|(apply qb;exact rvk;simp only[go_sem])
  exact qbV rfl
 have k1:((i:Int)<s.length)=True:=wl;have k2:(0<=(i:Int))=True:=wl;obtain⟨c,hc⟩:=wg (ch s i)
 have ec:=hc.symm;have hst:bsL (s.take (i+1))=(bsL (s.take i)).stp c:=by rw[qfm hi,qas,ec]
 have i2:=λe=>i2 e hi
 have hw:=λhb=>qnQ hi i2 hb
 rw[ec]at i2 hw;have hcz:=hz i hi;rw[ec]at hcz;have hlen:=(qcJ (s.take i)).len;rw[List.length_take]at hlen;obtain⟨b,hb⟩:=wg (bsL (s.take i))
 rw[<-hb]at hst i2 hw hlen ⊢;obtain⟨F,hF⟩:=wg (fnT b)
 have hFl:F.length=b.fin.length:=by rw[hF];unfold fnT;rw[List.length_map]
 rw[<-hF];have eC:=jz F;have eTk:List.take (F.length*6) (zW F)=zW F:=ltl om;have c5:=λh=>qbi c h
 have c6:=λh=>qEp c h
 have q0:((c.toNat:Int)=0)=False:=wm;obtain⟨V1,hV1⟩: ∃V,V=qo (some O1)+1:=⟨_,rfl⟩
 obtain⟨V2,hV2⟩: ∃V,V=qo (some O2)+1:=⟨_,rfl⟩
 obtain⟨kk,hkk⟩: ∃k,k=kind c:=⟨_,rfl⟩
 rw[<-hkk]at c5
 by_cases g6:kk=6
 ·have m6:(kk=6)=True:=eqt g6;have hin:kY c=false:=by
   cases e:kY c with
   |false=>rfl
   |true=>exact absurd (hkk.symm.trans g6) (qfu e)
  have hbg:bgn c=false:=by
   cases e:bgn c with
   |false=>rfl
   |true=>rw[qaq e]at hin;cases hin
  have hs2:bsL (s.take (i+1))=⟨b.fin,false,0,[],false⟩:=by
   rw[hst];unfold Bs.stp;rw[ine (λq=>by rw[hin]at q;cases q.2),ine (by rw[hbg];simp),ipo (hkk.symm.trans g6)]
  have hFn:fnT ⟨b.fin,false,0,[],false⟩=F:=by
   rw[hF];unfold fnT Bs.fin;simp
  simp (disch:=omega) only[z0,sgC,k1,k2,ec,s1',q0,go_sem]
  repeat' first|(refine cG (λe=>c5 _) flk ?_;simp (disch:=omega) only[m6,go_sem])
  refine hK _ _ (i+1,v,.mem (qo (some O1)+1) 359 (sgC c),O2,O3,O4,O5,O6) ⟨⟨hi,λe=>by rw[hs2]at e;cases e⟩,rfl,s2,s3,s4,s5,s6⟩ (by simp only;omega) ?_;simp only[hs2,hFn,sgC];refine Wk.temps ?_
  (simp only[go_sem,qf,qc,qa,qe];try exact we)
 have m6:(kk=6)=False:=eqf g6;have wide:F.length<=1000000:=by omega
 obtain⟨V4,hV4⟩: ∃V,V=qo (some O3)+1:=⟨_,rfl⟩
 simp (disch:=omega) only[z0,sgC,k1,k2,ec,s1',q0,go_sem]
 repeat' first|(refine cG (λe=>c5 _) flk ?_;simp (disch:=omega) only[s2',m6,go_sem])
 rw[<-hV1,<-hV2];refine qnB (λtt hh=> ∃(w:Str) (f:Int) (n:Nat) (P3 P4 P5:AObj),((1<=n∧i+n<=s.length)∧(f=0∨f=8)∧fnT (bsL (s.take (i+n)))=F++ [⟨w,w,[],0,f+jfl b.jn F.length,[]⟩]∧(bsL (s.take (i+n))).jn=true∧
   ((bsL (s.take (i+n))).opn=true->i+n<s.length->kY (ch s (i+n))=false))∧(qy [P3] 0=true∧qy [P4] 0=true∧qy [P5] 0=true)∧
   Wk tt hh (qO 160 [(0,qfJ s),(3,.osl (h.length+1) v 6 0 F.length),(4,.bool b.jn),(5,.bool false),(6,.int .i64 (i:Int)),(8,.op (h.length+3) V2 0),(9,.bool false),(10,.int .i64 (n:Int))])
    (h++ [.emp 1,zg v 119 (zW F),.mem V1 359 (sgC c),.mem V2 119 [.str w,.str [],.str [],.int .i64 0,.int .i64 f,.str []],P3,P4,P5,O6,.emp 0])) ?hy ?hx
 case hy=>
  rintro tt hh ⟨w,f,n,P3,P4,P5,⟨⟨n1,n2⟩,hf,hFn,hjn,hop⟩,⟨p3,p4,p5⟩,hw9⟩;clear hw hst hcz hz hSW;simp (disch:=omega) only[go_sem];refine⟨_,_,hw9,?_⟩;clear hw9;have r0:((i:Int)+(n:Int)).toNat=i+n:=by omega
  obtain⟨B2,hB2⟩: ∃B,B=bsL (s.take (i+n)):=⟨_,rfl⟩
  by_cases hj:b.jn=true∧0<F.length
  ·have ej:=hj.1;have m1:((0:Int)<F.length)=True:=wl;have ejf:jfl b.jn F.length=16:=by unfold jfl;rw[ipo hj]
   rw[ejf]at hFn;simp (disch:=omega) only[s6',ej,m1,eC,eTk,go_sem]
   repeat' first|with_reducible apply aiA|exact clz|fail
   have eA:zW F++ [AV.str w,AV.str w,AV.str [],AV.int .i64 0,AV.int .i64 (f+16),AV.str []]=zW (F++ [⟨w,w,[],0,f+16,[]⟩]):=by rw[UY,qaO];rfl
   try rw[eA]
   refine hK _ _ (i+n,v+1,.mem V1 359 (sgC c),.mem V2 119 [.str w,.str w,.str [],.int .i64 0,.int .i64 (f+16),.str []],P3,P4,P5,.mem (qo (some O6)+1) 119 [.str w,.str w,.str [],.int .i64 0,.int .i64 (f+16),.str []]) ⟨⟨n2,hop⟩,rfl,rfl,p3,p4,p5,rfl⟩ (by simp only;omega) ?_;simp only[hFn,hjn,lap,lco,lnl];refine Wk.temps ?_
   (simp only[go_sem,qf,qc,qa,qe];try exact we)
  have ejf:jfl b.jn F.length=0:=by unfold jfl;rw[ine hj]
  rw[ejf,Int.add_zero]at hFn;cases ej:b.jn with
  |true=>
   have m1:((0:Int)<F.length)=False:=eqf (λe=>hj ⟨ej,om⟩);simp (disch:=omega) only[s6',m1,eC,eTk,go_sem]
   repeat' first|with_reducible apply aiA|exact clz|fail
   have eA:zW F++ [AV.str w,AV.str w,AV.str [],AV.int .i64 0,AV.int .i64 (f),AV.str []]=zW (F++ [⟨w,w,[],0,f,[]⟩]):=by rw[UY,qaO];rfl
   try rw[eA]
   refine hK _ _ (i+n,v+1,.mem V1 359 (sgC c),.mem V2 119 [.str w,.str w,.str [],.int .i64 0,.int .i64 (f),.str []],P3,P4,P5,.mem (qo (some O6)+1) 119 [.str w,.str w,.str [],.int .i64 0,.int .i64 (f),.str []]) ⟨⟨n2,hop⟩,rfl,rfl,p3,p4,p5,rfl⟩ (by simp only;omega) ?_;simp only[hFn,hjn,lap,lco,lnl];refine Wk.temps ?_
   (simp only[go_sem,qf,qc,qa,qe];try exact we)
  |false=>
   simp (disch:=omega) only[s6',eC,eTk,go_sem]
   repeat' first|(with_reducible first|intro _|apply aiA)|exact clz|fail
   have eA:zW F++ [AV.str w,AV.str w,AV.str [],AV.int .i64 0,AV.int .i64 (f),AV.str []]=zW (F++ [⟨w,w,[],0,f,[]⟩]):=by rw[UY,qaO];rfl
   try rw[eA]
   refine hK _ _ (i+n,v+1,.mem V1 359 (sgC c),.mem V2 119 [.str w,.str w,.str [],.int .i64 0,.int .i64 (f),.str []],P3,P4,P5,.mem (qo (some O6)+1) 119 [.str w,.str w,.str [],.int .i64 0,.int .i64 (f),.str []]) ⟨⟨n2,hop⟩,rfl,rfl,p3,p4,p5,rfl⟩ (by simp only;omega) ?_;simp only[hFn,hjn,lap,lco,lnl];refine Wk.temps ?_
   (simp only[go_sem,qf,qc,qa,qe];try exact we)
 case hx=>
  intro KK hKK;subst hSW;cases hbg:bgn c with
  |false=>
   rw[hbg]at c6;have hs2:bsL (s.take (i+1))=⟨b.fin++ [tkF (8+jfl b.jn b.fin.length) [c]],false,0,[],true⟩:=by
    rw[hst];unfold Bs.stp;rw[ine (λq=>by rw[i2 q.1]at q;cases q.2),ine (by rw[hbg];simp),ine (by rw[<-hkk];exact g6)]
   have hFn:fnT ⟨b.fin++ [tkF (8+jfl b.jn b.fin.length) [c]],false,0,[],true⟩=F++ [⟨[c],[c],[],0,8+jfl b.jn b.fin.length,[]⟩]:=by
    rw[hF];show List.map tkN ((b.fin++ [tkF (8+jfl b.jn b.fin.length) [c]])++ [])=_;rw[lan,List.map_append];rfl
   rw[<-hFl]at hs2 hFn;simp (disch:=omega) only[sgC,s3',s4',s5',q0,go_sem]
   repeat' first|(refine cA (c6 _) flk ?_;simp (disch:=omega) only[s3',s5',UD,go_sem])|(with_reducible first|intro _|apply aiA)
   all_goals try (rename_i y hy;change y∈ [AV.int .u8 (c.toNat:Int)]at hy;rw[List.mem_singleton]at hy;subst hy;exact UI c)
   all_goals try exact clz
   refine hKK _ _ ⟨[c],8,1,O3,O4,.mem (qo (some O5)+1) 5 [.int .u8 (c.toNat:Int)],⟨⟨nlr _,hi⟩,.inr rfl,by rw[hs2];exact hFn,by rw[hs2],λe=>by rw[hs2]at e;cases e⟩,⟨s3,s4,rfl⟩,?_⟩;simp only[sgC];refine Wk.temps ?_
   (simp only[go_sem,qf,qc,qa,qe];try exact we)
  |true=>
   rw[hbg]at c6;have hw:=hw hbg;have hw1:wdF s i 1= [c]:=by
    have:=qb1 (s:=s) (i:=i) (n:=0) om
    rw[this,Nat.add_zero,ec];rfl
   simp (disch:=omega) only[z0,sgC,s3',s4',s5',q0,z1,z2,go_sem]
   repeat' first|(refine cA (c6 _) flk ?_;simp (disch:=omega) only[s3',s5',UD,go_sem])|(with_reducible first|intro _|apply aiA)
   all_goals try (rename_i y hy;change y∈ [AV.int .u8 (c.toNat:Int)]at hy;rw[List.mem_singleton]at hy;subst hy;exact UI c)
   all_goals try exact clz
   rw[<-hV4];refine qn (T:=λn:Nat×AObj=>qO 160 [(0,qfJ s),(3,.osl (h.length+1) v 6 0 F.length),(4,.bool b.jn),(5,.bool false),(6,.int .i64 (i:Int)),(8,.op (h.length+3) V2 0),(9,.bool false),(10,.int .i64 (n.1:Int))])
    (H:=λn=>h++ [.emp 1,zg v 119 (zW F),.mem V1 359 (sgC c),.mem V2 119 [.str (wdF s i n.1),.str [],.str [],.int .i64 0,.int .i64 0,.str []],.mem V4 5 [.int .u8 (c.toNat:Int)],n.2,O5,O6,.emp 0])
    (inv:=λn=>(1<=n.1∧i+n.1<=s.length∧ ∀k,k+1<n.1->kY (ch s (i+1+k))=true)∧qy [n.2] 0=true) (m:=λn=>s.length-n.1) (1,O4) ⟨⟨nlr _,hi,λk hk=>by omega⟩,s4⟩ ?_ ?_
   ·simp only[hw1,sgC];refine Wk.temps ?_
    (simp only[go_sem,qf,qc,qa,qe];try exact we)
   rintro⟨n,P⟩ ⟨⟨n1,n2,n3⟩,n4⟩ K2 hK2;simp only at n1 n2 n3 n4 hK2;have n4': ∀m,qy (P::m) 0=true:=λ_=>n4
   have hb2:bsL (s.take (i+n))=⟨b.fin,true,jfl b.jn b.fin.length,wdF s i n,true⟩:=by
    have:=hw (n-1) om (λk hk=>n3 k om)
    rw[show i+(n-1)+1=i+n by omega,show n-1+1=n by omega]at this;exact this
   have hFn:fnT ⟨b.fin,true,jfl b.jn b.fin.length,wdF s i n,true⟩=F++ [⟨wdF s i n,wdF s i n,[],0,jfl b.jn b.fin.length,[]⟩]:=by
    rw[hF];show List.map tkN (b.fin++ [_])=_;rw[List.map_append];rfl
   rw[<-hFl]at hb2 hFn;have hws:=qb1 (s:=s) (i:=i) (n:=n);have hwl:(wdF s i n).length<=s.length:=by unfold wdF;rw[List.length_take,List.length_drop];omega
   obtain⟨w,hww⟩:=wg (wdF s i n)
   rw[<-hww]at hb2 hFn hws hwl ⊢;have r0:((i:Int)+(n:Int)).toNat=i+n:=by omega
   have r1:(0<=(i:Int)+(n:Int))=True:=wl;clear hst hcz hw;have fin:(i+n<s.length->kY (ch s (i+n))=false)-> ∀tt hh,Wk tt hh (qO 160 [(0,qfJ s),(3,.osl (h.length+1) v 6 0 F.length),(4,.bool b.jn),(5,.bool false),(6,.int .i64 (i:Int)),(8,.op (h.length+3) V2 0),(9,.bool false),(10,.int .i64 (n:Int))])
     (h++ [.emp 1,zg v 119 (zW F),.mem V1 359 (sgC c),.mem V2 119 [.str w,.str [],.str [],.int .i64 0,.int .i64 0,.str []],.mem V4 5 [.int .u8 (c.toNat:Int)],P,O5,O6,.emp 0])->KK tt hh:=λhex tt hh q=>
    hKK _ _ ⟨w,0,n,.mem V4 5 [.int .u8 (c.toNat:Int)],P,O5,⟨⟨n1,n2⟩,.inl rfl,by rw[hb2,Int.zero_add];exact hFn,by rw[hb2],λ_=>hex⟩,⟨rfl,n4,s5⟩,q⟩
   by_cases hn:i+n<s.length
   case neg=>
    have r2:((i:Int)+(n:Int)<s.length)=False:=wm;simp (disch:=omega) only[z0,sgC,r0,r1,r2,go_sem]
    repeat' first|(refine qj ( .bool false) ?_;simp (disch:=omega) only[Bool.false_and,go_sem])|(with_reducible first|intro _|apply aiA)|exact clz|fail
    refine fin (λq=>absurd q hn) _ _ ?_;simp only[sgC];refine Wk.temps ?_
    (simp only[z0,sgC,go_sem,qf,qc,qa,qe];try exact we)
   have r2:((i:Int)+(n:Int)<s.length)=True:=wl;have hws:=hws hn;obtain⟨e,he⟩:=wg (ch s (i+n))
   have ee:=he.symm;have c7:=λh=>qEc e h
   have hez:=hz (i+n) hn;rw[ee]at hez hws;have q1:((e.toNat:Int)=0)=False:=wm;cases hin:kY e with
   |false=>
    rw[hin]at c7;simp (disch:=omega) only[z0,sgC,r0,r1,r2,ee,q1,go_sem];refine cG (λ_=>c7 _) (λ_=>by exact flk) ?_;simp (disch:=omega) only[go_sem];refine fin (λ_=>by rw[ee];exact hin) _ _ ?_;simp only[sgC];refine Wk.temps ?_
    (simp only[z0,sgC,go_sem,qf,qc,qa,qe];try exact we)
   |true=>
    rw[hin]at c7;simp (disch:=omega) only[z0,sgC,r0,r1,r2,ee,q1,go_sem];refine cG (λ_=>c7 _) (λ_=>by exact flk) ?_;simp (disch:=omega) only[go_sem];refine kg ?zt ?zh ?za ?zb
    case za=>
     simp (disch:=omega) only[r0,r1,r2,ee,n4',UD,go_sem]
     repeat' first|(with_reducible apply aiA)|(with_reducible intro _)
     all_goals first
      |omega
      |rfl
      |(rename_i y hy;change y∈ [AV.int .u8 (e.toNat:Int)]at hy;rw[List.mem_singleton]at hy;subst hy;exact UI e)
      |skip
    case zb=>
    simp (disch:=omega) only[r0,r1,r2,ee,go_sem];refine hK2 _ _ (n+1,.mem (qo (some P)+1) 5 [.int .u8 (e.toNat:Int)]) ⟨⟨om,om,λk hk=> ?_⟩,rfl⟩ (by simp only;omega) ?_
    ·by_cases e1:k+1<n
     ·exact n3 k e1
     ·rw[show i+1+k=i+n by omega,ee];exact hin
    simp only[hws,sgC];refine Wk.temps ?_
    (simp only[z0,sgC,go_sem,qf,qc,qa,qe];try exact we)
end RC
end
section
open Go Go.Proofs AF
def qtt:List Nat:= [234]
def qnX:C:=
 (vU [ON 2 (.nilo 0 1 9) [],vO 3 0] ((vU [MV 10 0,O1 11 (.call 162 true) 10,MV 4 11] (vU [MV 12 4,vP 13 .neq 12 0] (vV 13 (vX [MV 14 4,ON 2 (.nilo 0 1 9) [],MV 3 14])))).seq (vU
 [⟨some 16,none,.build [.str [],i6 0] [],[]⟩,MV 17 0,⟨some 18,none,.build [i6 0,.str [],i6 0,.nl] [(0,1),(1,1)],[.c (i6 1),.t 17]⟩,⟨some 19,none,.bslc 1 4 1 234 [i6 0,.str [],i6
 0,.nl] [(0,4)],[.t 18]⟩,ON 20 (.call 234 false) [.t 16,.t 19,.c (.bool false),.c (.str [])],MV 15 20,O1 21 (.ext 0) 15,O1 22 (.ext 1) 15,O1 23 (.ext 2) 15,⟨some 6,none,.alloc 2
 117 [.str [],i6 0],[]⟩,MV 5 21,ST 2 6 22,MV 7 23] (vU [MV 24 5,O1 25 (.call 235 true) 24,MV 8 25] ((vU [MV 26 8,O1 27 (.call 236 true) 26,MV 9 27] (vU [MV 28 9,vP 29 .neq 28 0]
 (vV 29 (vX [MV 30 9,ON 2 (.nilo 0 1 9) [],MV 3 30])))).seq (vX [MV 31 8,O1 32 (.call 241 true) 31,MV 2 32,vO 3 0]))))))
theorem qkN:qI Tryz.prog 166 33 3 [RV.tmp 2,RV.tmp 3] qnX:=fi Tryz.f166 [2,19,6] qtt []
end
section
open Go Go.Proofs AF HY LN
namespace RC
theorem qBS{s:Str}(h:zN s=0): ∀i,i<s.length->(ch s i).toNat≠0:=by
 intro i hi hc;rw[qb8]at h;split at h
 ·cases h
 ·split at h
  ·cases h
  ·rename_i g;refine g (List.any_eq_true.2 ⟨i,List.mem_range.2 hi,?_⟩);have ec:ch s i=0:=UInt8.toNat_inj.1 hc;unfold U2;rw[ec,show kind 0=0 by decide];rfl
theorem qz8(s:Str)(h:wh)(hl:s.length<=1000000):ACalls Tryz.prog 234 [.agg [.str [],.int .i64 0],.osl (h.length+1) 1 4 0 1,.bool false,.str []] (h++ [.emp 1,.mem 1 234 (.int .i64 1:: .str s:: .int .i64 0:: .nl::List.drop 4 (zk [.int .i64 0,.str [],.int .i64 0,.nl] 1)),.emp 0])
  (.tup [qfJ s,.agg [.str [],.int .i64 0],.bool false]) (h++ [.emp 1,.emp 2,.emp 0]):=by
 have c1:=qFj s (h++ [.emp 1,.emp 2,.emp 0]) hl;refine ACalls.frzd [h.length+1] ?s1 ?s2
 case s1=>simp only[kM,go_sem]
 case s2=>
  simp only[List.map_cons,List.map_nil,qa5,go_sem];have e: [h.length+1].contains (h.length+1)=true:=by simp
  simp only[e,if_true];refine c1.le ⟨qi,?_,qi,qi,trivial⟩ (qi);unfold jQ;refine VLe.sl_eq rfl (λi hi=> ?_);obtain rfl:i=0:=by omega
  rfl
theorem qzk(L:List Tk):qgE (L.map tkN)=qgE L:=by
 unfold qgE;rw[List.length_map];congr 1;funext j
 by_cases hj:j<L.length
 ·rw[gdqA,gdqA,List.getElem?_map,zz hj];rfl
 ·rw[gdqA,gdqA,List.getElem?_map,List.getElem?_eq_none om];rfl
theorem qtA{s:Str}(hl:s.length<=1000):qBj (qbX s)=qd8 s:=by
 have h1:=qaP s;unfold qBj qd8;rw[ine om];unfold qbX;rw[qzk]
theorem qAc(s:Str)(h:wh)(hl:s.length<=1000):ACalls Tryz.prog 166 [.str s] h (.tup [strs (qfa s),.int .i64 (qdR s)]) h:=by
 have c0: ∀h,ACalls Tryz.prog 162 [.str s] h (.int .i64 (zN s)) h:=λh=>qEa s h om
 by_cases g:zN s=0
 case neg=>
  have k1:(zN s=0)=False:=eqf g;have e1:qdR s=zN s:=by unfold qdR;rw[ipo g]
  have e2:qfa s= []:=by unfold qfa;rw[e1,ine g]
  rw[e2,e1];refine acO qkN ?_;simp (disch:=omega) only[qnX,go_sem]
  repeat' first|(refine cA (c0 _) flk ?_;simp (disch:=omega) only[k1,go_sem])|(apply qb;exact rvk;simp only[go_sem])
  exact VLe.tup ⟨qP,qi,trivial⟩
 have e1:qdR s=qd8 s:=by unfold qdR;rw[ine (λe=>e g)]
 rw[g]at c0;have hz:=qBS g;have zf1:(qfJ s).flag=true:=rfl;have zf2:(qfJ s).strip=qfJ s:=rfl;have hlt:=qaP s;have c2:=λh=>qEz s h om hz
 have c3:=λh=>qEZ (qbX s) h om
 rw[qtA hl]at c3;have c4:=λh=>qFH (qbX s) h om
 by_cases ge:qd8 s=0
 ·have k3:(qd8 s=0)=True:=eqt ge;have e2:qfa s=qdb (qbX s):=by unfold qfa;rw[e1,ipo ge];rfl
  rw[e2,e1,ge];refine acO qkN ?_;simp (disch:=omega) only[qnX,go_sem]
  repeat' first|(refine cA (c0 _) flk ?_;simp (disch:=omega) only[go_sem])
  refine qz (qz8 s h om) (by exact flk) ?_;simp (disch:=omega) only[zf1,zf2,go_sem]
  repeat' first|((first|refine cA (c2 _) ?_ ?_|refine cA (c3 _) ?_ ?_|refine cA (c4 _) ?_ ?_);exact flk;simp (disch:=omega) only[ge,go_sem])|exact wa|with_reducible apply aiA|exact clz|fail
 ·have k3:(qd8 s=0)=False:=eqf ge;have e2:qfa s= []:=by unfold qfa;rw[e1,ine ge]
  rw[e2,e1];refine acO qkN ?_;simp (disch:=omega) only[qnX,go_sem]
  repeat' first|(refine cA (c0 _) flk ?_;simp (disch:=omega) only[go_sem])
  refine qz (qz8 s h om) (by exact flk) ?_;simp (disch:=omega) only[zf1,zf2,go_sem]
  repeat' first|((first|refine cA (c2 _) ?_ ?_|refine cA (c3 _) ?_ ?_);exact flk;simp (disch:=omega) only[k3,go_sem])|(apply qb;exact rvk;simp only[go_sem])|with_reducible apply aiA|exact clz|fail
  exact VLe.tup ⟨qP,qi,trivial⟩
theorem qgZ(x:Co)(g:Str)(h:wh)(hn:x.sig.length<=1000000000):ACalls Tryz.prog 97 [.agg (coC x),.str g] h (.int .i64 (qX x g)) h:=by
 have z0:strs x.sig= .sl x.sig.length λj=> [.str (x.sig.getD j [])]:=rfl
 have z1: ∀g,valL g .len [strs x.sig]= .int .i64 x.sig.length:=λ_=>rfl
 have z2: ∀g,okL g .len [strs x.sig]=True:=λ_=>eqt trivial
 obtain⟨R,hR⟩:=wg (qX x g)
 rw[<-hR];unfold qX at hR;refine acO qCz ?_;simp (disch:=omega) only[qDQ,coC,go_sem];refine qn (T:=λi:Nat=>qO 21 [(1,.str g),(2,.op h.length 1 0),(5,.int .i64 (i:Int))]) (H:=λ_=>h++ [.mem 1 26 (coC x)])
  (inv:=λi=>i<=x.sig.length∧ ∀j,j<i->decide (g=x.sig.getD j [])=false) (m:=λi=>x.sig.length-i) 0 ⟨nzl _,λj hj=>absurd hj (nnz j)⟩ (Wk.temps ?_) ?_
 ·(simp only[go_sem,qf,qc,qa,qe];try exact we)
 rintro i ⟨i1,i2⟩ K hK
 by_cases hi:i<x.sig.length
 ·have k1:((i:Int)<x.sig.length)=True:=wl;have k2:(0<=(i:Int))=True:=wl;have hst:=λhp=>jx (p:=λj=>decide (g=x.sig.getD j [])) (i:=i) i2 hp
  obtain⟨y,hy⟩:=wg (x.sig.getD i [])
  have ey:=hy.symm
  by_cases e:y=g
  ·have k3:(y=g)=True:=eqt e;rw[hR,kS (p:=λj=>decide (g=x.sig.getD j [])) hi i2 (dqt (by rw[ey];exact e.symm))];simp (disch:=omega) only[coC,z0,k1,k2,k3,ey,go_sem]
   repeat' first|exact wa|with_reducible apply aiA|exact clz|fail
  ·have k3:(y=g)=False:=eqf e;simp (disch:=omega) only[coC,z0,k1,k2,k3,ey,go_sem]
   repeat' first|with_reducible apply aiA|exact clz|fail
   refine hK _ _ (i+1) ⟨hi,hst (dqf (by rw[ey];exact λq=>e q.symm))⟩ om ?_;simp only[coC];refine Wk.temps ?_
   (simp only[go_sem,qf,qc,qa,qe];try exact we)
 have k1:((i:Int)<x.sig.length)=False:=wm;obtain rfl:i=x.sig.length:=by omega
 rw[hR,b6 (p:=λj=>decide (g=x.sig.getD j [])) i2];simp (disch:=omega) only[coC,z0,k1,go_sem]
 repeat' first|exact wa|fail
theorem qA3(l:List Un)(c:Int)(h:wh)(hn:l.length<=1000000000):ACalls Tryz.prog 86 [ze l,.int .i64 c] h (.int .i64 (fnU l c)) h:=by
 have z0:ze l= .sl l.length λj=>unC (l.getD j default):=rfl
 have z1: ∀g,valL g .len [ze l]= .int .i64 l.length:=λ_=>rfl
 have z2: ∀g,okL g .len [ze l]=True:=λ_=>eqt trivial
 obtain⟨R,hR⟩:=wg (fnU l c)
 rw[<-hR];unfold fnU at hR;obtain⟨p,hp⟩: ∃p:Nat->Bool,p=λi=>decide ((l.getD i default).frm<=c)&&decide (c<(l.getD i default).to):=⟨_,rfl⟩
 have hpe: ∀i,p i=(decide ((l.getD i default).frm<=c)&&decide (c<(l.getD i default).to)):=λi=>by rw[hp]
 rw[<-hp]at hR;refine acO qCu ?_;simp (disch:=omega) only[qDM,go_sem];refine qn (T:=λi:Nat=>qO 29 [(0,ze l),(1,.int .i64 c),(5,.int .i64 (i:Int))]) (H:=λ_=>h)
  (inv:=λi=>i<=l.length∧ ∀j,j<i->p j=false) (m:=λi=>l.length-i) 0 ⟨nzl _,λj hj=>absurd hj (nnz j)⟩ (Wk.temps ?_) ?_
 ·(simp only[go_sem,qf,qc,qa,qe];try exact we)
 rintro i ⟨i1,i2⟩ K hK
 by_cases hi:i<l.length
 ·have k1:((i:Int)<l.length)=True:=wl;have k2:(0<=(i:Int))=True:=wl;have hst:=λhp=>jx (p:=p) (i:=i) i2 hp
  have hpi:=hpe i;obtain⟨y,hy⟩:=wg (l.getD i default)
  have ey:=hy.symm;rw[ey]at hpi
  by_cases e1:y.frm<=c
  ·have k3:(y.frm<=c)=True:=eqt e1
   by_cases e2:c<y.to
   ·have k4:(c<y.to)=True:=eqt e2;rw[hR,kS (p:=p) hi i2 (by rw[hpi,dqt e1,dqt e2];rfl)];simp (disch:=omega) only[z0,unC,k1,k2,ey,go_sem]
    repeat' first|exact wc|(with_reducible first|intro _|apply aiA)|exact clz|fail
   ·have k4:(c<y.to)=False:=eqf e2;simp (disch:=omega) only[z0,unC,k1,k2,ey,go_sem]
    repeat' first|(apply qh;exact rvk;simp only[go_sem];apply qg)|(with_reducible first|intro _|apply aiA)|exact clz|fail
    refine hK _ _ (i+1) ⟨hi,hst (by rw[hpi,dqf e2,Bool.and_false])⟩ om (Wk.temps ?_)
    (simp only[z0,unC,go_sem,qf,qc,qa,qe];try exact we)
  ·have k3:(y.frm<=c)=False:=eqf e1;simp (disch:=omega) only[z0,unC,k1,k2,ey,go_sem]
   repeat' first|(apply qh;exact rvk;simp only[go_sem];apply qg)|(with_reducible first|intro _|apply aiA)|exact clz|fail
   refine hK _ _ (i+1) ⟨hi,hst (by rw[hpi,dqf e1,Bool.false_and])⟩ om (Wk.temps ?_)
   (simp only[z0,unC,go_sem,qf,qc,qa,qe];try exact we)
 have k1:((i:Int)<l.length)=False:=wm;obtain rfl:i=l.length:=by omega
 rw[hR,b6 (p:=p) i2];simp (disch:=omega) only[z0,k1,go_sem]
 repeat' first|exact wc|fail
def plN(x:Co)(l:List Un)(s:Nat)(t:Int):Int:=if kz x s t<0 then-1 else fnU l (kz x s t)
theorem qgK(x:Co)(l:List Un)(s:Nat)(t:Int)(h:wh)(ho:CoOk x)(hs:s<x.sig.length)(hc:x.col.length<=1000000000)(hn:l.length<=1000000000):ACalls Tryz.prog 96 [.agg (coC x),ze l,.int .i64 (s:Int),.int .i64 t] h (.int .i64 (plN x l s t)) h:=by
 have z0:qu x.col= .sl x.col.length λj=> [qv (x.col.getD j [])]:=rfl
 have z1: ∀g,valL g .len [qu x.col]= .int .i64 x.col.length:=λ_=>rfl
 have z2: ∀g,okL g .len [qu x.col]=True:=λ_=>eqt trivial
 have k0:(0<=(s:Int))=True:=wl;obtain⟨p,hp⟩: ∃p:Nat->Bool,p=λk=>decide ((x.col.getD k []).getD s 0=t):=⟨_,rfl⟩
 have hpe: ∀i,p i=decide ((x.col.getD i []).getD s 0=t):=λi=>by rw[hp]
 have hR:kz x s t=qbD p x.col.length 0:=by unfold kz;rw[hp]
 refine acO qCy ?_;simp (disch:=omega) only[qDP,coC,go_sem];refine qn (T:=λi:Nat=>qO 30 [(1,ze l),(2,.int .i64 (s:Int)),(3,.int .i64 t),(4,.op h.length 1 0),(9,.int .i64 (i:Int))]) (H:=λ_=>h++ [.mem 1 26 (coC x)])
  (inv:=λi=>i<=x.col.length∧ ∀j,j<i->p j=false) (m:=λi=>x.col.length-i) 0 ⟨nzl _,λj hj=>absurd hj (nnz j)⟩ (Wk.temps ?_) ?_
 ·(simp only[go_sem,qf,qc,qa,qe];try exact we)
 rintro i ⟨i1,i2⟩ K hK
 by_cases hi:i<x.col.length
 ·have k1:((i:Int)<x.col.length)=True:=wl;have k2:(0<=(i:Int))=True:=wl;have hst:=λhp=>jx (p:=p) (i:=i) i2 hp
  have hpi:=hpe i;have hcl:=ho.cl i hi;have c3:=λh=>qA3 l (i:Int) h hn
  obtain⟨r,hr⟩:=wg (x.col.getD i [])
  have er:=hr.symm;rw[er]at hpi hcl;have k3:((s:Int)<r.length)=True:=wl;have zr:qv r= .sl r.length λj=> [.int .i64 (r.getD j 0)]:=rfl
  obtain⟨y,hy⟩:=wg (r.getD s 0)
  have ey:=hy.symm;rw[ey]at hpi
  by_cases e:y=t
  ·have k4:(y=t)=True:=eqt e;have hV:plN x l s t=fnU l (i:Int):=by
    unfold plN;rw[hR,kS (p:=p) hi i2 (by rw[hpi,dqt e]),ine om]
   rw[hV];simp (disch:=omega) only[coC,z0,zr,k0,k1,k2,k3,er,ey,go_sem]
   repeat' first|(refine cA (c3 _) flk ?_;simp (disch:=omega) only[k4,go_sem])|exact wa|(with_reducible first|intro _|apply aiA)|exact clz|fail
  ·have k4:(y=t)=False:=eqf e;simp (disch:=omega) only[coC,z0,zr,k0,k1,k2,k3,er,ey,go_sem]
   repeat' first|(with_reducible first|intro _|apply aiA)|exact clz|fail
   refine hK _ _ (i+1) ⟨hi,hst (by rw[hpi,dqf e])⟩ om ?_;simp only[coC];refine Wk.temps ?_
   (simp only[go_sem,qf,qc,qa,qe];try exact we)
 have k1:((i:Int)<x.col.length)=False:=wm;obtain rfl:i=x.col.length:=by omega
 have hV:plN x l s t= -1:=by
  unfold plN;rw[hR,b6 (p:=p) i2,ipo om]
 rw[hV];simp (disch:=omega) only[coC,z0,k1,go_sem]
 repeat' first|exact wa|with_reducible apply aiA|exact clz|fail
theorem qnk(x:Co)(l:List Un)(h:wh)(hz:qad x)(hu:qbK l)(hp:kt SG h):ACalls Tryz.prog 84 [.agg (coC x),ze l] h (.int .i64 (vaE x l)) h:=by
 have c1:=λl'=>coR x (h++l') hz (hp.app l')
 have c2:=λl'=>qDa x l (h++l') hz hu (hp.app l')
 have hE:vaE x l=(if coE x≠0 then 1 else if rgB x l=false then 20 else 0):=rfl
 by_cases g:coE x=0
 case neg=>
  have k1:(coE x=0)=False:=eqf g;rw[ipo g]at hE;rw[hE];unfold coC at c1;refine acO qtd ?_;simp (disch:=omega) only[qBf,coC,go_sem]
  repeat' first|(refine cA (c1 _) flk ?_;simp (disch:=omega) only[k1,go_sem])|exact wa|fail
 rw[ine (by simpa using g)]at hE;simp only[g]at c1
 by_cases g2:rgB x l=false
 ·rw[ipo g2]at hE;rw[hE];simp only[hE]at c2;unfold coC at c1 c2;refine acO qtd ?_;simp (disch:=omega) only[qBf,coC,go_sem]
  repeat' first|((first|refine cA (c1 _) ?_ ?_|refine cA (c2 _) ?_ ?_);exact flk;simp (disch:=omega) only[go_sem])|(apply qb;exact rvk;simp only[go_sem];first|exact qi|apply qg)|(with_reducible first|intro _|apply aiA)|exact clz|fail
 ·rw[ine g2]at hE;rw[hE];simp only[hE]at c2;unfold coC at c1 c2;refine acO qtd ?_;simp (disch:=omega) only[qBf,coC,go_sem]
  repeat' first|((first|refine cA (c1 _) ?_ ?_|refine cA (c2 _) ?_ ?_);exact flk;simp (disch:=omega) only[go_sem])|exact wa|fail
theorem qqj{x:Co}{g:Str}{S:Nat}(h:qX x g=S):S<x.sig.length:=by
 rcases zU (λj=>decide (g=x.sig.getD j [])) x.sig.length with⟨i,q1,_,_,q4⟩|⟨_,q2⟩
 ·have e:qX x g=i:=q4;omega
 ·have e:qX x g= -1:=q2;omega
theorem qq1(x:Co)(l:List Un)(o:Dc)(h:wh)(hz:qad x)(hu:qbK l)(h1:coE x=0)(ht:o.txt.length<=1000):ACalls Tryz.prog 98 [.agg (coC x),ze l,.agg (dcC o)] h (.int .i64 (U3 x l o)) h:=by
 have ho:=W0 h1;have hE:U3 x l o=(if o.kind<1∨3<o.kind then 8 else if o.txt≠ []∧o.kind≠2 then 1 else if tkB x o=false then 6 else if kF x l o<0 then 20 else cjE o):=rfl;have htk:tkB x o=(decide (0<=qX x o.sig)&&(decide (0<=o.tok)&&decide (o.tok<((x.tok.getD (qX x o.sig).toNat []).length:Int)))):=rfl;have c1:=λh=>qgZ x o.sig h hz.sg
 unfold coC at c1;have hs:(o.kind=2∨(o.kind=1∨o.kind=3)∧o.txt= [])->U3 x l o=(if tkB x o=false then 6 else if kF x l o<0 then 20 else cjE o):=λhk=>by
  rw[hE,ine om,ine (λe=>hk.elim e.2 (λk=>e.1 k.2))]
 by_cases g2:o.kind=2
 case' neg=>
  have q2:(o.kind=2)=False:=eqf g2
  by_cases gk:o.kind<1∨3<o.kind
  ·have q1:(o.kind=1)=False:=wm;have q3:(o.kind=3)=False:=wm;rw[ipo gk]at hE;rw[hE];refine acO qcv ?_;simp (disch:=omega) only[qjQ,coC,dcC,q1,q2,q3,go_sem]
   repeat' first|exact wa|fail
  have q0:(o.kind=1)=True∧(o.kind=3)=False∨(o.kind=1)=False∧(o.kind=3)=True:=by
   by_cases g1:o.kind=1
   ·exact .inl ⟨eqt g1,eqf om⟩
   ·exact .inr ⟨eqf g1,eqt om⟩
  by_cases ge:o.txt= []
  case neg=>
   have k3:(o.txt= [])=False:=eqf ge;rw[ine gk,ipo ⟨ge,g2⟩]at hE;rw[hE];rcases q0 with⟨q1,q3⟩|⟨q1,q3⟩
   all_goals
    refine acO qcv ?_;simp (disch:=omega) only[qjQ,coC,dcC,q1,q2,q3,k3,go_sem]
    repeat' first|exact wa|with_reducible apply aiA|exact clz|fail
  have k3:(o.txt= [])=True:=eqt ge;have hE:=hs (.inr ⟨om,ge⟩);rcases q0 with⟨q1,q3⟩|⟨q1,q3⟩
 case' pos=>
  have q1:(o.kind=1)=False:=wm;have q2:(o.kind=2)=True:=eqt g2;have q3:(o.kind=3)=False:=wm;have hE:=hs (.inl g2)
  by_cases ge:o.txt= []
  case' pos=>have k3:(o.txt= [])=True:=eqt ge
  case' neg=>have k3:(o.txt= [])=False:=eqf ge
 all_goals
  by_cases g5:qX x o.sig<0
  ·have k5:(qX x o.sig<0)=True:=eqt g5;rw[dqf om,Bool.false_and]at htk;rw[ipo htk]at hE;rw[hE];refine acO qcv ?_;simp (disch:=omega) only[qjQ,coC,dcC,q1,q2,q3,k3,go_sem]
   repeat' first|(refine cA (c1 _) flk ?_;simp (disch:=omega) only[k5,go_sem])|exact wa|with_reducible apply aiA|exact clz|fail
  obtain⟨S,hSn⟩: ∃S:Nat,qX x o.sig=S:=⟨(qX x o.sig).toNat,om⟩
  have hSl:S<x.sig.length:=qqj hSn;have k5:((S:Int)<0)=False:=wm;have k0:(0<=(S:Int))=True:=wl;have k01:((S:Int)<x.tok.length)=True:=eqt (by have:=ho.tn;omega);rw[hSn,dqt om,Bool.true_and,itn]at htk;simp only[hSn]at c1;have c2:=λh=>qgK x l S o.tok h ho hSl hz.cl (by have:=hu.n;omega)
  have hcn:=λa b=>gH (t:=o.tok) ho hSl a b
  obtain⟨tl,htl⟩: ∃t,t=x.tok.getD S []:=⟨_,rfl⟩
  have el:=htl.symm;rw[el]at htk hcn;have zt1: ∀g,valL g .len [zJ tl]= .int .i64 tl.length:=λ_=>rfl
  have zt2: ∀g,okL g .len [zJ tl]=True:=λ_=>eqt trivial
  by_cases g60:o.tok<0
  ·have k6:(o.tok<0)=True:=eqt g60;rw[dqf om,Bool.false_and]at htk;rw[ipo htk]at hE;rw[hE];refine acO qcv ?_;simp (disch:=omega) only[qjQ,coC,dcC,q1,q2,q3,k3,qm,go_sem]
   repeat' first|(refine cA (c1 _) flk ?_;simp (disch:=omega) only[k5,k0,k01,k6,el,zt1,zt2,go_sem])|exact wa|with_reducible apply aiA|exact clz|fail
  have k6:(o.tok<0)=False:=eqf g60;rw[dqt om,Bool.true_and]at htk
  by_cases g61:(tl.length:Int)<=o.tok
  ·have k7:((tl.length:Int)<=o.tok)=True:=eqt g61;rw[dqf om]at htk;rw[ipo htk]at hE;rw[hE];refine acO qcv ?_;simp (disch:=omega) only[qjQ,coC,dcC,q1,q2,q3,k3,qm,go_sem]
   repeat' first|(refine cA (c1 _) flk ?_;simp (disch:=omega) only[k5,k0,k01,k6,k7,el,zt1,zt2,go_sem])|exact wa|with_reducible apply aiA|exact clz|fail
  have k7:((tl.length:Int)<=o.tok)=False:=eqf g61;rw[dqt om]at htk;rw[ine (by rw[htk];decide)]at hE;have hcn:=hcn om om;have hpl:plN x l S o.tok=kF x l o:=by unfold plN kF;rw[ine om,hSn,itn]
  simp only[hpl]at c2;obtain⟨p,hpp⟩:=wg (kF x l o)
  rw[<-hpp]at hE;simp only[<-hpp]at c2;unfold coC at c2
  by_cases g7:p<0
  ·have k8:(p<0)=True:=eqt g7;rw[ipo g7]at hE;rw[hE];refine acO qcv ?_;simp (disch:=omega) only[qjQ,coC,dcC,q1,q2,q3,k3,qm,go_sem]
   repeat' first|((first|refine cA (c1 _) ?_ ?_|refine cA (c2 _) ?_ ?_);exact flk;simp (disch:=omega) only[q2,k5,k0,k01,k6,k7,el,zt1,zt2,k8,go_sem])|exact wa|with_reducible apply aiA|exact clz|fail
  have k8:(p<0)=False:=eqf g7;rw[ine g7]at hE;unfold cjE at hE
  by_cases gq:o.kind=2
  case neg=>
   rw[ine gq]at hE;rw[hE]
   try exact absurd g2 gq
   all_goals
    refine acO qcv ?_;simp (disch:=omega) only[qjQ,coC,dcC,q1,q2,q3,k3,qm,go_sem]
    repeat' first|((first|refine cA (c1 _) ?_ ?_|refine cA (c2 _) ?_ ?_);exact flk;simp (disch:=omega) only[q2,k5,k0,k01,k6,k7,el,zt1,zt2,k8,go_sem])|exact wa|with_reducible apply aiA|exact clz|fail
  rw[ipo gq]at hE;have c4:=λh=>qAc o.txt h ht
  by_cases g8:qdR o.txt=0
  case neg=>
   have k9:(qdR o.txt=0)=False:=eqf g8;rw[ipo g8]at hE;rw[hE]
   try exact absurd gq g2
   all_goals
    refine acO qcv ?_;simp (disch:=omega) only[qjQ,coC,dcC,q1,q2,q3,k3,qm,go_sem]
    repeat' first|((first|refine cA (c1 _) ?_ ?_|refine cA (c2 _) ?_ ?_|refine cA (c4 _) ?_ ?_);exact flk;simp (disch:=omega) only[q2,k5,k0,k01,k6,k7,el,zt1,zt2,k8,k9,go_sem])|exact wa|with_reducible apply aiA|exact clz|fail
  rw[ine (by simpa using g8)]at hE;simp only[g8]at c4;cases hL:qfa o.txt with
  |nil=>
   rw[hL]at hE c4;rw[ipo rfl]at hE;rw[hE]
   try exact absurd gq g2
   all_goals
    refine acO qcv ?_;simp (disch:=omega) only[qjQ,coC,dcC,q1,q2,q3,k3,qm,strs,go_sem]
    repeat' first|((first|refine cA (c1 _) ?_ ?_|refine cA (c2 _) ?_ ?_|refine cA (c4 _) ?_ ?_);exact flk;simp (disch:=omega) only[q2,k5,k0,k01,k6,k7,el,zt1,zt2,k8,strs,go_sem])|(apply qb;exact rvk;simp only[go_sem];first|exact qi|apply qg)|(with_reducible first|intro _|apply aiA)|exact clz|fail
  |cons a r=>
   rw[hL]at hE c4;rw[ine (by simp)]at hE;rw[hE];have k9:(((a::r).length:Int)=0)=False:=eqf (by simp;omega)
   try exact absurd gq g2
   all_goals
    refine acO qcv ?_;simp (disch:=omega) only[qjQ,coC,dcC,q1,q2,q3,k3,qm,strs,go_sem]
    repeat' first|((first|refine cA (c1 _) ?_ ?_|refine cA (c2 _) ?_ ?_|refine cA (c4 _) ?_ ?_);exact flk;simp (disch:=omega) only[q2,k5,k0,k01,k6,k7,el,zt1,zt2,k8,strs,go_sem])|(apply qb;exact rvk;simp only[go_sem];first|exact qi|apply qg)|(with_reducible first|intro _|apply aiA)|exact clz|fail
theorem qw3(x:Co)(l:List Un)(d:List Dc)(h:wh)(hz:qad x)(hu:qbK l)(h1:coE x=0)(hd:d.length<=1000000)(ht: ∀o∈d,o.txt.length<=1000):ACalls Tryz.prog 85 [.agg (coC x),ze l,kq d] h (.int .i64 (KD x l d)) h:=by
 have z0:kq d= .sl d.length λi=>dcC (d.getD i default):=rfl
 have z1: ∀g,valL g .len [kq d]= .int .i64 d.length:=λ_=>rfl
 have z2: ∀g,okL g .len [kq d]=True:=λ_=>eqt trivial
 by_cases g:256<d.length
 ·have k1:((256:Int)<d.length)=True:=wl;have hE:KD x l d=4:=by unfold KD;rw[ipo g]
  rw[hE];refine acO qyS ?_;simp (disch:=omega) only[qBJ,coC,z1,z2,k1,go_sem]
  repeat' first|exact wa|fail
 have k1:((256:Int)<d.length)=False:=wm;have hE:KD x l d=U9 (λi=>U3 x l (d.getD i default)) 0 d.length:=by unfold KD;rw[ine g]
 rw[hE];refine acO qyS ?_;simp (disch:=omega) only[qBJ,coC,z1,z2,k1,go_sem];refine qn (T:=λi:Nat=>qO 28 [(1,ze l),(2,kq d),(3,.op h.length 1 0),(7,.int .i64 (i:Int))]) (H:=λ_=>h++ [.mem 1 26 (coC x)])
  (inv:=λi=>i<=d.length∧ ∀j,j<i->U3 x l (d.getD j default)=0) (m:=λi=>d.length-i) 0 ⟨nzl _,λj hj=>absurd hj (nnz j)⟩ (Wk.temps ?_) ?_
 ·(simp only[go_sem,qf,qc,qa,qe];try exact we)
 rintro i ⟨i1,i0⟩ K hK
 by_cases hi:i<d.length
 ·have k2:((i:Int)<d.length)=True:=wl;have k3:(0<=(i:Int))=True:=wl;obtain⟨o,ho⟩:=wg (d.getD i default)
  have eo:=ho.symm;have hom:o∈d:=by rw[ho];exact jf hi
  have c1:=λh=>qq1 x l o h hz hu h1 (ht o hom)
  by_cases g3:U3 x l o=0
  case neg=>
   have k4:(U3 x l o=0)=False:=eqf g3;have hf:U9 (λi=>U3 x l (d.getD i default)) 0 d.length=U3 x l o:=by
    rw[gO hi i0 (by rw[eo];exact g3),eo]
   rw[hf];unfold coC dcC at c1;simp (disch:=omega) only[coC,z0,dcC,k2,k3,eo,go_sem]
   repeat' first|(refine cA (c1 _) flk ?_;simp (disch:=omega) only[k4,go_sem])|exact wa|fail
  simp only[g3]at c1;unfold coC dcC at c1;simp (disch:=omega) only[coC,z0,dcC,k2,k3,eo,go_sem]
  repeat' first|(refine cA (c1 _) flk ?_;simp (disch:=omega) only[go_sem])
  refine hK _ _ (i+1) ⟨hi,λj hj=> ?_⟩ om ?_
  ·by_cases e:j=i
   ·rw[e,eo];exact g3
   ·exact i0 j om
  simp only[coC];refine Wk.temps ?_
  (simp only[z0,dcC,go_sem,qf,qc,qa,qe];try exact we)
 have k2:((i:Int)<d.length)=False:=wm;obtain rfl:i=d.length:=by omega
 have hf:U9 (λi=>U3 x l (d.getD i default)) 0 d.length=0:=jH i0;rw[hf];simp (disch:=omega) only[z1,z2,k2,go_sem]
 repeat' first|exact wa|fail
theorem qq3(x:Co)(l:List Un)(o:Dc)(h:wh)(hz:qad x)(hu:qbK l)(hp:kt SG h)(ht:o.txt.length<=1000):ACalls Tryz.prog 37 [.agg (coC x),ze l,.agg (dcC o)] h (.int .i64 (qeZ x l o)) h:=by
 have c1:=λl'=>qnk x l (h++l') hz hu (hp.app l')
 by_cases g:vaE x l=0
 case neg=>
  have k1:(vaE x l=0)=False:=eqf g;have hE:qeZ x l o=vaE x l:=by unfold qeZ;rw[ipo g]
  rw[hE];unfold coC at c1;refine acO qyG ?_;simp (disch:=omega) only[qBD,coC,dcC,go_sem]
  repeat' first|(refine cA (c1 _) flk ?_;simp (disch:=omega) only[k1,go_sem])|exact wa|fail
 have hE:qeZ x l o=U3 x l o:=by unfold qeZ;rw[ine (by simpa using g)]
 rw[hE];have c2:=λh=>qq1 x l o h hz hu (qe0 g) ht
 simp only[g]at c1;unfold coC dcC at c2;unfold coC at c1;refine acO qyG ?_;simp (disch:=omega) only[qBD,coC,dcC,go_sem]
 repeat' first|((first|refine cA (c1 _) ?_ ?_|refine cA (c2 _) ?_ ?_);exact flk;simp (disch:=omega) only[go_sem])|exact wa|fail
theorem qAm(x:Co)(l:List Un)(o:Dc)(h:wh)(hz:qad x)(hu:qbK l)(hp:kt SG h)(ht:o.txt.length<=1000):ACalls Tryz.prog 33 [.agg (coC x),ze l,.agg (dcC o)] h (.tup [.int .i64 (qvm x l o),.int .i64 (qeZ x l o)]) h:=by
 have c1:=λl'=>qq3 x l o (h++l') hz hu (hp.app l') ht
 unfold qvm
 by_cases g:qeZ x l o=0
 case neg=>
  have k1:(qeZ x l o=0)=False:=eqf g;rw[ine g];unfold coC dcC at c1;refine acO qyu ?_;simp (disch:=omega) only[qBC,coC,dcC,go_sem]
  repeat' first|(refine cA (c1 _) flk ?_;simp (disch:=omega) only[k1,go_sem])|exact wa|fail
 rw[ipo g];have g0:vaE x l=0∧U3 x l o=0:=by
  unfold qeZ at g;split at g
  ·rename_i q;exact absurd g q
  ·rename_i q;exact⟨Classical.not_not.1 q,g⟩
 have h1:=qe0 g0.1;have ho:=W0 h1;obtain⟨_,_,_,p4,_⟩:=UO g0.2;obtain⟨t1,t2,_,t4,t5⟩:=qda p4;have c2:=λh=>qgZ x o.sig h hz.sg
 obtain⟨S,hSn⟩: ∃S:Nat,qX x o.sig=S:=⟨(qX x o.sig).toNat,om⟩
 rw[hSn,itn]at t2 t5;have c3:=λh=>qgK x l S o.tok h ho t2 hz.cl (by have:=hu.n;omega)
 have hcn:=gH (t:=o.tok) ho t2 t4 t5;have hpl:plN x l S o.tok=kF x l o:=by unfold plN kF;rw[ine om,hSn,itn]
 simp only[hpl]at c3;simp only[hSn]at c2;simp only[g]at c1 ⊢;unfold coC dcC at c1;unfold coC at c2 c3;refine acO qyu ?_;simp (disch:=omega) only[qBC,coC,dcC,go_sem]
 repeat' first|((first|refine cA (c1 _) ?_ ?_|refine cA (c2 _) ?_ ?_|refine cA (c3 _) ?_ ?_);exact flk;simp (disch:=omega) only[go_sem])|exact wa|fail
theorem qzJ(b:List Wd)(k:Int)(h:wh)(hn:b.length<=1000000):ACalls Tryz.prog 94 [kn b,.int .i64 k] h (strs (owG b k b.length)) h:=by
 have z0:kn b= .sl b.length λi=>wdC (b.getD i default):=rfl
 have z1: ∀g,valL g .len [kn b]= .int .i64 b.length:=λ_=>rfl
 have z2: ∀g,okL g .len [kn b]=True:=λ_=>eqt trivial
 refine acO qCx ?_;simp (disch:=omega) only[qDO,go_sem];refine qn (T:=λs:Nat×Nat×AObj=>qO 30 [(0,kn b),(1,.int .i64 k),(5,.osl (h.length+1) s.2.1 1 0 (owG b k s.1).length),(6,.int .i64 s.1)])
  (H:=λs=>h++ [.emp 1,AObj.mem s.2.1 9 (jl (owG b k s.1)),s.2.2,.emp 0])
  (inv:=λs=>s.1<=b.length∧qy [s.2.2] 0=true) (m:=λs=>b.length-s.1) (0,1,.emp 0) ⟨nzl _,rfl⟩ (Wk.temps ?_) ?_
 ·(simp only[owG,go_sem,qf,qc,qa,qe];try exact we)
 rintro⟨i,v,O2⟩ ⟨i1,i3⟩ K hK;simp only at i1 i3 hK;have i3': ∀m,qy (O2::m) 0=true:=λ_=>i3
 have hol:=qrD b k i
 by_cases hi:i<b.length
 ·have k1:((i:Int)<b.length)=True:=wl;have k2:(0<=(i:Int))=True:=wl;have hS:owG b k (i+1)=owG b k i++if (b.getD i default).unit=k then [(b.getD i default).text] else []:=rfl
  obtain⟨L,hL⟩:=wg (owG b k i)
  rw[<-hL]at hS hol ⊢;obtain⟨w,hw⟩:=wg (b.getD i default)
  have ew:=hw.symm;rw[ew]at hS;have eC:=jh L;have eTk:List.take L.length (jl L)=jl L:=ltl om
  by_cases g:w.unit=k
  ·have q1:(w.unit=k)=True:=eqt g;rw[ipo g]at hS;simp (disch:=omega) only[z0,wdC,k1,k2,ew,i3',q1,eC,eTk,Nat.mul_one,go_sem]
   repeat' first|with_reducible apply aiA|exact clz|fail
   have eA:jl L++ [AV.str w.text]=jl (L++ [w.text]):=by simp[jl]
   try rw[eA]
   refine hK _ _ (i+1,v+1,.mem (qo (some O2)+1) 9 [.str w.text]) ⟨hi,rfl⟩ (by simp only;omega) ?_;simp only[hS,lap,lco,lnl];refine Wk.temps ?_
   (simp only[z0,wdC,go_sem,qf,qc,qa,qe];try exact we)
  ·have q1:(w.unit=k)=False:=eqf g;rw[ine g,lan]at hS;simp (disch:=omega) only[z0,wdC,k1,k2,ew,i3',q1,go_sem];refine hK _ _ (i+1,v,O2) ⟨hi,i3⟩ (by simp only;omega) ?_;simp only[hS];refine Wk.temps ?_
   (simp only[z0,wdC,go_sem,qf,qc,qa,qe];try exact we)
 have k1:((i:Int)<b.length)=False:=wm;obtain rfl:i=b.length:=by omega
 simp (disch:=omega) only[k1,z1,z2,go_sem]
 repeat' first|(apply qb;exact rvk;simp only[go_sem])
 rw[ipo (by rw[jh];exact nlr _)];exact qbW _ (λ_=>rfl) rfl
theorem qA4(b:List Wd)(h:wh)(hn:b.length<=1000000):ACalls Tryz.prog 41 [kn b] h (strs (qbY b)) h:=by
 have z0:kn b= .sl b.length λi=>wdC (b.getD i default):=rfl
 have z1: ∀g,valL g .len [kn b]= .int .i64 b.length:=λ_=>rfl
 have z2: ∀g,okL g .len [kn b]=True:=λ_=>eqt trivial
 refine acO qCk ?_;simp (disch:=omega) only[qDC,go_sem];refine qn (T:=λs:Nat×Nat×AObj=>qO 21 [(0,kn b),(3,.osl (h.length+1) s.2.1 1 0 s.1),(4,.int .i64 s.1)])
  (H:=λs=>h++ [.emp 1,AObj.mem s.2.1 9 (jl (qbY (b.take s.1))),s.2.2,.emp 0])
  (inv:=λs=>s.1<=b.length∧qy [s.2.2] 0=true) (m:=λs=>b.length-s.1) (0,1,.emp 0) ⟨nzl _,rfl⟩ (Wk.temps ?_) ?_
 ·(simp only[go_sem,qf,qc,qa,qe];try exact we)
 rintro⟨i,v,O2⟩ ⟨i1,i3⟩ K hK;simp only at i1 i3 hK;have i3': ∀m,qy (O2::m) 0=true:=λ_=>i3
 have eL:(qbY (b.take i)).length=i:=by unfold qbY;rw[List.length_map,List.length_take];omega
 by_cases hi:i<b.length
 ·have k1:((i:Int)<b.length)=True:=wl;have k2:(0<=(i:Int))=True:=wl;have hS:qbY (b.take (i+1))=qbY (b.take i)++ [(b.getD i default).text]:=by
   unfold qbY;rw[List.take_add_one,zz hi,gdqA,zz hi,List.map_append];rfl
  obtain⟨L,hL⟩:=wg (qbY (b.take i))
  rw[<-hL]at hS eL ⊢;obtain⟨w,hw⟩:=wg (b.getD i default)
  have ew:=hw.symm;rw[ew]at hS;have eC:=jh L;have eTk:List.take i (jl L)=jl L:=ltl om;simp (disch:=omega) only[z0,wdC,k1,k2,ew,i3',eC,eL,eTk,Nat.mul_one,go_sem]
  repeat' first|with_reducible apply aiA|exact clz|fail
  have eA:jl L++ [AV.str w.text]=jl (L++ [w.text]):=by simp[jl]
  try rw[eA]
  refine hK _ _ (i+1,v+1,.mem (qo (some O2)+1) 9 [.str w.text]) ⟨hi,rfl⟩ (by simp only;omega) ?_;simp only[hS];refine Wk.temps ?_
  (simp only[z0,wdC,go_sem,qf,qc,qa,qe];try exact we)
 have k1:((i:Int)<b.length)=False:=wm;obtain rfl:i=b.length:=by omega
 rw[List.take_length]at eL ⊢;simp (disch:=omega) only[k1,z1,z2,go_sem]
 repeat' first|(apply qb;exact rvk;simp only[go_sem])
 rw[ipo (by rw[jh];exact Nat.le_of_eq eL.symm)];exact qbW _ (λ_=>rfl) eL.symm
def qvf(x:Co)(l:List Un)(k:Int):Int:=if vaE x l≠0 then vaE x l else if k<0∨(l.length:Int)<=k then 20 else 0
def qpL(x:Co)(l:List Un)(b:List Wd)(k:Int):List Str:=if qvf x l k=0 then owG b k b.length else []
theorem qzI(x:Co)(l:List Un)(b:List Wd)(k:Int)(h:wh)(hz:qad x)(hu:qbK l)(hb:b.length<=1000000)(hp:kt SG h):ACalls Tryz.prog 40 [.agg (coC x),ze l,kn b,.int .i64 k] h (.tup [strs (qpL x l b k),.int .i64 (qvf x l k)]) h:=by
 have c1:=λl'=>qnk x l (h++l') hz hu (hp.app l')
 have c2:=λh=>qzJ b k h hb
 have z1: ∀g,valL g .len [ze l]= .int .i64 l.length:=λ_=>rfl
 have z2: ∀g,okL g .len [ze l]=True:=λ_=>eqt trivial
 have hE:qvf x l k=if vaE x l≠0 then vaE x l else if k<0∨(l.length:Int)<=k then 20 else 0:=rfl
 unfold qpL
 by_cases g:vaE x l=0
 case neg=>
  have k1:(vaE x l=0)=False:=eqf g;rw[ipo g]at hE;rw[hE,ine g];unfold coC at c1;refine acO qoL ?_;simp (disch:=omega) only[qwU,coC,go_sem]
  repeat' first|(refine cA (c1 _) flk ?_;simp (disch:=omega) only[k1,go_sem])|(apply qb;exact rvk;simp only[go_sem])
  exact VLe.tup ⟨qP,qi,trivial⟩
 rw[ine (by simpa using g)]at hE;simp only[g]at c1;unfold coC at c1
 by_cases g1:k<0
 ·have k1:(k<0)=True:=eqt g1;rw[ipo (.inl g1)]at hE;rw[hE,ine (by decide)];refine acO qoL ?_;simp (disch:=omega) only[qwU,coC,go_sem]
  repeat' first|(refine cA (c1 _) flk ?_;simp (disch:=omega) only[z1,z2,k1,go_sem])|(apply qb;exact rvk;simp only[go_sem])
  exact VLe.tup ⟨qP,qi,trivial⟩
 have k1:(k<0)=False:=eqf g1
 by_cases g2:(l.length:Int)<=k
 ·have k2:((l.length:Int)<=k)=True:=eqt g2;rw[ipo (.inr g2)]at hE;rw[hE,ine (by decide)];refine acO qoL ?_;simp (disch:=omega) only[qwU,coC,go_sem]
  repeat' first|(refine cA (c1 _) flk ?_;simp (disch:=omega) only[z1,z2,k1,k2,go_sem])|(apply qb;exact rvk;simp only[go_sem])
  exact VLe.tup ⟨qP,qi,trivial⟩
 have k2:((l.length:Int)<=k)=False:=eqf g2;rw[ine (λe=>e.elim g1 g2)]at hE;rw[hE,ipo rfl];refine acO qoL ?_;simp (disch:=omega) only[qwU,coC,go_sem]
 repeat' first|((first|refine cA (c1 _) ?_ ?_|refine cA (c2 _) ?_ ?_);exact flk;simp (disch:=omega) only[z1,z2,k1,k2,go_sem])|exact wa|fail
theorem qzH(x:Co)(l:List Un)(b:List Wd)(k:Int)(h:wh)(hz:qad x)(hu:qbK l)(hb:b.length<=1000000)(hp:kt SG h):ACalls Tryz.prog 39 [.agg (coC x),ze l,kn b,.int .i64 k] h (.tup [strs (qpL x l b k),.int .i64 (qvf x l k)]) h:=by
 have c1:=λl'=>qhu x l (h++l') hz hu (hp.app l')
 have c2:=λh=>qE7 b k h hb
 have z1: ∀g,valL g .len [ze l]= .int .i64 l.length:=λ_=>rfl
 have z2: ∀g,okL g .len [ze l]=True:=λ_=>eqt trivial
 have hE:qvf x l k=if vaE x l≠0 then vaE x l else if k<0∨(l.length:Int)<=k then 20 else 0:=rfl
 unfold qpL
 by_cases g:vaE x l=0
 case neg=>
  have k1:(vaE x l=0)=False:=eqf g;rw[ipo g]at hE;rw[hE,ine g];unfold coC at c1;refine acO qoK ?_;simp (disch:=omega) only[qwT,coC,go_sem]
  repeat' first|(refine cA (c1 _) flk ?_;simp (disch:=omega) only[k1,go_sem])|(apply qb;exact rvk;simp only[go_sem])
  exact VLe.tup ⟨qP,qi,trivial⟩
 rw[ine (by simpa using g)]at hE;simp only[g]at c1;unfold coC at c1
 by_cases g1:k<0
 ·have k1:(k<0)=True:=eqt g1;rw[ipo (.inl g1)]at hE;rw[hE,ine (by decide)];refine acO qoK ?_;simp (disch:=omega) only[qwT,coC,go_sem]
  repeat' first|(refine cA (c1 _) flk ?_;simp (disch:=omega) only[z1,z2,k1,go_sem])|(apply qb;exact rvk;simp only[go_sem])
  exact VLe.tup ⟨qP,qi,trivial⟩
 have k1:(k<0)=False:=eqf g1
 by_cases g2:(l.length:Int)<=k
 ·have k2:((l.length:Int)<=k)=True:=eqt g2;rw[ipo (.inr g2)]at hE;rw[hE,ine (by decide)];refine acO qoK ?_;simp (disch:=omega) only[qwT,coC,go_sem]
  repeat' first|(refine cA (c1 _) flk ?_;simp (disch:=omega) only[z1,z2,k1,k2,go_sem])|(apply qb;exact rvk;simp only[go_sem])
  exact VLe.tup ⟨qP,qi,trivial⟩
 have k2:((l.length:Int)<=k)=False:=eqf g2;rw[ine (λe=>e.elim g1 g2)]at hE;rw[hE,ipo rfl];refine acO qoK ?_;simp (disch:=omega) only[qwT,coC,go_sem]
 repeat' first|((first|refine cA (c1 _) ?_ ?_|refine cA (c2 _) ?_ ?_);exact flk;simp (disch:=omega) only[z1,z2,k1,k2,go_sem])|exact wa|fail
theorem qAa(L:List (List Int))(h:wh)(hn:L.length<=1000000)(hl: ∀j,(L.getD j []).length<=1000000):ACalls Tryz.prog 38 [qu L,qu L] h (.bool true) h:=by
 have z0:qu L= .sl L.length λj=> [qv (L.getD j [])]:=rfl
 have z1: ∀g,valL g .len [qu L]= .int .i64 L.length:=λ_=>rfl
 have z2: ∀g,okL g .len [qu L]=True:=λ_=>eqt trivial
 have k0:((L.length:Int)=L.length)=True:=eqt rfl;refine acO qCj ?_;simp (disch:=omega) only[qDB,z1,z2,go_sem];refine qn (T:=λi:Nat=>qO 27 [(0,qu L),(1,qu L),(5,.int .i64 (i:Int))]) (H:=λ_=>h) (inv:=λi=>i<=L.length) (m:=λi=>L.length-i) 0 (nzl _) (Wk.temps ?_) ?_
 ·(simp only[go_sem,qf,qc,qa,qe];try exact we)
 intro i i1 K hK
 by_cases hi:i<L.length
 ·have k1:((i:Int)<L.length)=True:=wl;have k2:(0<=(i:Int))=True:=wl;have hli:=hl i;obtain⟨r,hr⟩:=wg (L.getD i [])
  have er:=hr.symm;rw[er]at hli;have c1:=λh=>qD4 r r h om om
  rw[dqt rfl]at c1;simp (disch:=omega) only[z0,k1,k2,er,go_sem]
  repeat' first|(refine cA (c1 _) flk ?_;simp (disch:=omega) only[go_sem])|with_reducible apply aiA|exact clz|fail
  refine hK _ _ (i+1) hi om (Wk.temps ?_)
  (simp only[z0,go_sem,qf,qc,qa,qe];try exact we)
 have k1:((i:Int)<L.length)=False:=wm;simp (disch:=omega) only[k1,z1,z2,go_sem]
 repeat' first|exact wc|fail
def cfI(p:Nat->Int)(i:Nat):Nat->List (List Int)
 |0=> []
 |k+1=>cfI p i k++if i<k∧p i=p k then [[(i:Int),(k:Int)]] else []
def cfO(p:Nat->Int)(n:Nat):Nat->List (List Int)
 |0=> []
 |i+1=>cfO p n i++cfI p i n
theorem qkd(p:Nat->Int)(i:Nat): ∀k,(cfI p i k).length<=k:=by
 intro k
 induction k with
 |zero=>exact nlr _
 |succ k ih=>
  unfold cfI;rw[lap];split
  ·simp only[lco,lnl];omega
  ·simp only[lnl];omega
theorem qke(p:Nat->Int)(n:Nat): ∀i,(cfO p n i).length<=i*n:=by
 intro i
 induction i with
 |zero=>exact nzl _
 |succ i ih=>
  unfold cfO;rw[lap,Nat.succ_mul]
  have:=qkd p i n
  omega
theorem qq0(p:Nat->Int)(i:Nat): ∀k,k<=i+1->cfI p i k= []:=by
 intro k
 induction k with
 |zero=>intro _;rfl
 |succ k ih=>
  intro hk;unfold cfI;rw[ih om,ine om];rfl
theorem qw2(p:Nat->Int)(n:Nat):(∀i k r,r∈cfI p i k->r.length=2)∧ ∀i r,r∈cfO p n i->r.length=2:=by
 have h1: ∀i k r,r∈cfI p i k->r.length=2:=by
  intro i k
  induction k with
  |zero=>intro r hr;cases hr
  |succ k ih=>
   intro r hr;unfold cfI at hr;rcases List.mem_append.1 hr with hr|hr
   ·exact ih r hr
   ·split at hr
    ·rw[List.mem_singleton]at hr;subst hr;rfl
    ·cases hr
 refine⟨h1,λi=> ?_⟩
 induction i with
 |zero=>intro r hr;cases hr
 |succ i ih=>
  intro r hr;unfold cfO at hr;rcases List.mem_append.1 hr with hr|hr
  ·exact ih r hr
  ·exact h1 _ _ r hr
def UQ(L:List (List Int)):wj:=L.map qv
theorem qaM(L:List (List Int)):(UQ L).length=L.length:=by unfold UQ;rw[List.length_map]
theorem quE{L:List (List Int)}{i:Nat}(hi:i<L.length):(UQ L)[i]? =some (qv (L.getD i [])):=by
 unfold UQ;rw[List.getElem?_map,zz hi,gdqA,zz hi];rfl
theorem qf1{L:List (List Int)}{g:AV->AV}(hg: ∀l,g (qv l)=qv l){n:Nat}(hn:n=L.length):VLe (.sl n λi=>List.map g (List.take 1 (List.drop i (UQ L)))) (qu L):=by
 refine VLe.sl_eq hn (λi hi=> ?_);have hi':i<(UQ L).length:=by rw[qaM];omega
 have e:List.take 1 (List.drop i (UQ L))= [qv (L.getD i [])]:=by
  rw[List.drop_eq_getElem_cons hi'];have h2:=quE (L:=L) (i:=i) om;rw[zz hi']at h2;rw[Option.some.inj h2];rfl
 rw[e];exact congrArg (λz=> [z]) (hg _)
def cfP(x:Co)(l:List Un)(d:List Dc)(i:Nat):Int:=kF x l (d.getD i default)
def cfE(x:Co)(l:List Un)(d:List Dc):Int:=if vaE x l≠0 then vaE x l else KD x l d
def cfL(x:Co)(l:List Un)(d:List Dc):List (List Int):=if cfE x l d=0 then cfO (cfP x l d) d.length d.length else []
theorem qt5{x:Co}{l:List Un}{d:List Dc}{i:Nat}(hi:i<d.length):(plG x l d d.length).length=d.length∧(plG x l d d.length).getD i 0=cfP x l d i:=by
 unfold plG;rw[List.take_length];refine⟨by rw[List.length_map],?_⟩;unfold cfP;rw[gdqA,List.getElem?_map,zz hi,gdqA,zz hi];rfl
theorem qEv(x:Co)(l:List Un)(d:List Dc)(h:wh)(hz:qad x)(hu:qbK l)(hp:kt SG h)(hg:zT h frmN frmC)(hd:d.length<=60)(ht: ∀o∈d,o.txt.length<=1000):
  ACalls Tryz.prog 34 [.agg (coC x),ze l,kq d] h (.tup [qu (cfL x l d),.int .i64 (cfE x l d)]) h:=by
 have c1:=λl'=>qhu x l (h++l') hz hu (hp.app l')
 have zd0:kq d= .sl d.length λi=>dcC (d.getD i default):=rfl
 have zd1: ∀g,valL g .len [kq d]= .int .i64 d.length:=λ_=>rfl
 have zd2: ∀g,okL g .len [kq d]=True:=λ_=>eqt trivial
 have hE:cfE x l d=if vaE x l≠0 then vaE x l else KD x l d:=rfl
 unfold cfL
 by_cases g:vaE x l=0
 case neg=>
  have k1:(vaE x l=0)=False:=eqf g;rw[ipo g]at hE;rw[hE,ine g];unfold coC at c1;refine acO qs9 ?_;simp (disch:=omega) only[qBb,coC,go_sem]
  repeat' first|(refine cA (c1 _) flk ?_;simp (disch:=omega) only[k1,go_sem])|(apply qb;exact rvk;simp only[go_sem])
  exact VLe.tup ⟨qP,qi,trivial⟩
 rw[ine (by simpa using g)]at hE;simp only[g]at c1;have h1:=qe0 g;have ho:=W0 h1;have c2:=λl'=>qBk x l d (h++l') hz hu (hp.app l') hg.app h1 om ht
 unfold qve at c2;unfold coC at c1 c2
 by_cases g1:KD x l d=0
 case neg=>
  have k1:(KD x l d=0)=False:=eqf g1;rw[hE,ine g1];simp only[ine g1]at c2;refine acO qs9 ?_;simp (disch:=omega) only[qBb,coC,go_sem]
  repeat' first|((first|refine cA (c1 _) ?_ ?_|refine cA (c2 _) ?_ ?_);exact flk;simp (disch:=omega) only[k1,go_sem])|(apply qb;exact rvk;simp only[go_sem])|with_reducible apply aiA|exact clz|fail
  exact VLe.tup ⟨qP,qi,trivial⟩
 rw[hE,ipo g1,g1];have hpl:=λi hi=>(qlR g1).2 i hi
 simp only[g1,if_true]at c2;obtain⟨p,hpp⟩:=wg (cfP x l d)
 have hpa: ∀i,p i=cfP x l d i:=λi=>by rw[hpp]
 obtain⟨N,hN⟩:=wg d.length
 rw[<-hpp];obtain⟨A,hA⟩:=wg (plG x l d d.length)
 have hAl:A.length=d.length:=by rw[hA];unfold plG;rw[List.take_length,List.length_map]
 have hAt: ∀i,i<d.length->A.getD i 0=p i:=λi hi=>by rw[hA,(qt5 hi).2,hpa]
 simp only[<-hA]at c2;have zA0:qv A= .sl A.length λj=> [.int .i64 (A.getD j 0)]:=rfl
 have zA1: ∀g,valL g .len [qv A]= .int .i64 A.length:=λ_=>rfl
 have zA2: ∀g,okL g .len [qv A]=True:=λ_=>eqt trivial
 rw[<-hN]at hAl hAt hd ⊢;refine acO qs9 ?_;simp (disch:=omega) only[qBb,coC,go_sem]
 repeat' first|((first|refine cA (c1 _) ?_ ?_|refine cA (c2 _) ?_ ?_);exact flk;simp (disch:=omega) only[zA1,zA2,go_sem])|with_reducible apply aiA|exact clz|fail
 refine qn (T:=λi:Nat×Nat×AObj×AObj=>qO 63 [(9,qv A),(11,.osl (h.length+2) i.2.1 1 0 (cfO p N i.1).length),(31,.int .i64 A.length),(32,.int .i64 (i.1:Int))])
  (H:=λi=>h++ [.mem 1 26 (coC x),.emp 1,zg i.2.1 51 (UQ (cfO p N i.1)),i.2.2.1,i.2.2.2,.emp 0])
  (inv:=λi=>i.1<=N∧qy [i.2.2.1] 0=true∧qy [i.2.2.2] 0=true) (m:=λi=>N-i.1) (0,1,.emp 0,.emp 0) ⟨nzl _,rfl,rfl⟩ (Wk.temps ?_) ?_
 ·(simp only[cfO,go_sem,qf,qc,qa,qe];try exact we)
 rintro⟨i,v,O3,O4⟩ ⟨i1,i2,i3⟩ K hK;simp only at i1 i2 i3 hK;have hOl:=qke p N i;have hib:i*N<=60*60:=Nat.mul_le_mul om hd
 by_cases hi:i<N
 case neg=>
  have k1:((i:Int)<A.length)=False:=wm;obtain rfl:i=N:=by omega
  have hTl:=qaM (cfO p i i);simp (disch:=omega) only[k1,go_sem]
  repeat' first|(apply qb;exact rvk;simp only[go_sem])
  refine VLe.tup ⟨?_,qi,trivial⟩;unfold zg;split
  ·rename_i e;have e0:cfO p i i= []:=List.eq_nil_of_length_eq_zero (by rw[<-hTl,e];rfl);rw[e0];simp only[lnl,slOf_emp,if_true];exact qP
  ·rw[slOf_mem,ipo ⟨rfl,om⟩];simp only[Nat.zero_add,Nat.mul_one];exact qf1 (λ_=>rfl) rfl
 have k1:((i:Int)<A.length)=True:=wl;have k2:(0<=(i:Int))=True:=wl;simp (disch:=omega) only[k1,go_sem];refine qn (T:=λn:Nat×Nat×AObj×AObj=>qO 63 [(9,qv A),(11,.osl (h.length+2) n.2.1 1 0 (cfO p N i++cfI p i n.1).length),(12,.int .i64 (i:Int)),(13,.int .i64 (n.1:Int)),(31,.int .i64 A.length),(32,.int .i64 (i:Int))])
  (H:=λn=>h++ [.mem 1 26 (coC x),.emp 1,zg n.2.1 51 (UQ (cfO p N i++cfI p i n.1)),n.2.2.1,n.2.2.2,.emp 0])
  (inv:=λn=>(i<n.1∧n.1<=N)∧qy [n.2.2.1] 0=true∧qy [n.2.2.2] 0=true) (m:=λn=>N-n.1) (i+1,v,O3,O4) ⟨⟨Nat.lt_succ_self _,hi⟩,i2,i3⟩ ?_ ?_
 ·simp only[qq0 p i (i+1) (nlr _),lan];refine Wk.temps ?_
  (simp only[go_sem,qf,qc,qa,qe];try exact we)
 rintro⟨k,w,P3,P4⟩ ⟨⟨n0,n1⟩,n2,n3⟩ K2 hK2;simp only at n0 n1 n2 n3 hK2;have n2': ∀m,qy (P3::m) 0=true:=λ_=>n2
 have n3': ∀m,qy (P4::m) 0=true:=λ_=>n3
 have hIl:=qkd p i k
 by_cases hk:k<N
 case neg=>
  have q1:((k:Int)<A.length)=False:=wm;obtain rfl:k=N:=by omega
  simp (disch:=omega) only[q1,zA1,zA2,go_sem];refine hK _ _ (i+1,w,P3,P4) ⟨hi,n2,n3⟩ (by simp only;omega) ?_;simp only[coC,cfO];refine Wk.temps ?_
  (simp only[go_sem,qf,qc,qa,qe];try exact we)
 have q1:((k:Int)<A.length)=True:=wl;have q2:(0<=(k:Int))=True:=wl;have hst:cfO p N i++cfI p i (k+1)=(cfO p N i++cfI p i k)++if i<k∧p i=p k then [[(i:Int),(k:Int)]] else []:=by
  show cfO p N i++(cfI p i k++_)=_;rw[List.append_assoc]
 have hLl:(cfO p N i++cfI p i k).length<=3660:=by rw[lap];omega
 obtain⟨L,hL⟩:=wg (cfO p N i++cfI p i k)
 rw[<-hL]at hst hLl;simp only[<-hL];have eC:=qaM L;have eTk:List.take L.length (UQ L)=UQ L:=ltl om;have ai:=hAt i hi;have ak:=hAt k hk;have q9:((L.length:Int)=4096)=False:=wm
 by_cases e:p i=p k
 ·have q3:(p i=p k)=True:=eqt e;rw[ipo ⟨n0,e⟩]at hst;simp (disch:=omega) only[zA0,k1,k2,q1,q2,ai,ak,q3,q9,n2',n3',eC,eTk,Nat.mul_one,go_sem]
  repeat' first|with_reducible apply aiA|exact clz|fail
  have eD:List.drop 2 (zk [AV.int .i64 0] 2)= []:=rfl;have eg: ∀a:AV,(UQ L++ [a])[L.length]? =some a:=λa=>by rw[List.getElem?_append_right om,eC,Nat.sub_self];rfl
  have es: ∀a b:AV,(UQ L++ [a]).set L.length b=UQ L++ [b]:=λa b=>by rw[<-eC,List.set_append_right _ _ (nlr _),Nat.sub_self];rfl
  have eA:UQ L++ [qv [(i:Int),(k:Int)]]=UQ (L++ [[(i:Int),(k:Int)]]):=by unfold UQ;rw[List.map_append];rfl
  have eO: ∀r,zg (w+1) 51 (UQ (L++ [r]))= .mem (w+1) 51 (UQ (L++ [r])):=λr=>jU (by unfold UQ;simp)
  refine hK2 _ _ (k+1,w+1,.emp (qo (some P3)+1+1),.mem (qo (some P4)+1) 51 [.osl (h.length+3) (qo (some P3)+1) 1 0 2]) ⟨⟨by simp only;omega,hk⟩,rfl,rfl⟩ (by simp only;omega)
   (Wk.trans (Wk.fzCell (j:=h.length+2) (k:=h.length+3) (i:=L.length) (v:=w+1) (ty:=51) (cs:=UQ L++ [.osl (h.length+3) (qo (some P3)+1) 1 0 2]) (c:= .osl (h.length+3) (qo (some P3)+1) 1 0 2) (c':=qv [(i:Int),(k:Int)]) ?a1 (eg _) ?a3 om ?a4) ?a5)
  case a1=>
   simp only[go_sem]
   try rw[jU (by simp)]
  case a3=>simp only[go_sem]
  case a4=>
   rw[qgx,getO_app];simp only[List.getElem?_cons_succ,List.getElem?_cons_zero];rw[slOf_mem,ipo ⟨rfl,by simp⟩];refine VLe.sl_eq rfl (λj hj=> ?_)
   match j,hj with
   |0,_=>rfl
   |1,_=>rfl
  case a5=>
   simp only[go_sem,hst,es,eA,eO,coC,lap,lco,lnl];refine Wk.temps ?_
   (simp only[go_sem,qf,qc,qa,qe];try exact we)
 ·have q3:(p i=p k)=False:=eqf e;rw[ine (λq=>e q.2),lan]at hst;simp (disch:=omega) only[zA0,k1,k2,q1,q2,ai,ak,q3,go_sem]
  repeat' first|with_reducible apply aiA|exact clz|fail
  refine hK2 _ _ (k+1,w,P3,P4) ⟨⟨by simp only;omega,hk⟩,n2,n3⟩ (by simp only;omega) ?_;simp only[hst,coC];refine Wk.temps ?_
  (simp only[go_sem,qf,qc,qa,qe];try exact we)
theorem qw5(x:Co)(l:List Un)(d:List Dc)(h:wh)(hz:qad x)(hu:qbK l)(hp:kt SG h)(hd:d.length<=60)(ht: ∀o∈d,o.txt.length<=1000):
  ACalls Tryz.prog 35 [.agg (coC x),ze l,kq d] h (.tup [qu (cfL x l d),.int .i64 (cfE x l d)]) h:=by
 have c1:=λl'=>qnk x l (h++l') hz hu (hp.app l')
 have zd0:kq d= .sl d.length λi=>dcC (d.getD i default):=rfl
 have zd1: ∀g,valL g .len [kq d]= .int .i64 d.length:=λ_=>rfl
 have zd2: ∀g,okL g .len [kq d]=True:=λ_=>eqt trivial
 have hE:cfE x l d=if vaE x l≠0 then vaE x l else KD x l d:=rfl
 unfold cfL
 by_cases g:vaE x l=0
 case neg=>
  have k1:(vaE x l=0)=False:=eqf g;rw[ipo g]at hE;rw[hE,ine g];unfold coC at c1;refine acO qta ?_;simp (disch:=omega) only[qBc,coC,go_sem]
  repeat' first|(refine cA (c1 _) flk ?_;simp (disch:=omega) only[k1,go_sem])|(apply qb;exact rvk;simp only[go_sem])
  exact VLe.tup ⟨qP,qi,trivial⟩
 rw[ine (by simpa using g)]at hE;simp only[g]at c1;have h1:=qe0 g;have ho:=W0 h1;have c2:=λh=>qw3 x l d h hz hu h1 om ht
 unfold coC at c1 c2
 by_cases g1:KD x l d=0
 case neg=>
  have k1:(KD x l d=0)=False:=eqf g1;rw[hE,ine g1];refine acO qta ?_;simp (disch:=omega) only[qBc,coC,go_sem]
  repeat' first|((first|refine cA (c1 _) ?_ ?_|refine cA (c2 _) ?_ ?_);exact flk;simp (disch:=omega) only[k1,go_sem])|(apply qb;exact rvk;simp only[go_sem])
  exact VLe.tup ⟨qP,qi,trivial⟩
 rw[hE,ipo g1,g1];have hpl:=λi hi=>(qlR g1).2 i hi
 simp only[g1]at c2;obtain⟨p,hpp⟩:=wg (cfP x l d)
 have hpa: ∀i,p i=cfP x l d i:=λi=>by rw[hpp]
 obtain⟨N,hN⟩:=wg d.length
 rw[<-hpp];rw[<-hN]at hd hpl zd0 ⊢;simp only[<-hN]at zd1;refine acO qta ?_;simp (disch:=omega) only[qBc,coC,go_sem]
 repeat' first|((first|refine cA (c1 _) ?_ ?_|refine cA (c2 _) ?_ ?_);exact flk;simp (disch:=omega) only[go_sem])
 refine qn (T:=λi:Nat×Nat×AObj×AObj=>qO 82 [(1,ze l),(2,kq d),(3,.op h.length 1 0),(10,.osl (h.length+2) i.2.1 1 0 (cfO p N i.1).length),(11,.int .i64 (i.1:Int))])
  (H:=λi=>h++ [.mem 1 26 (coC x),.emp 1,AObj.mem i.2.1 51 (UQ (cfO p N i.1)),i.2.2.1,i.2.2.2,.emp 0])
  (inv:=λi=>i.1<=N∧qy [i.2.2.1] 0=true∧qy [i.2.2.2] 0=true) (m:=λi=>N-i.1) (0,1,.emp 0,.emp 0) ⟨nzl _,rfl,rfl⟩ (Wk.temps ?_) ?_
 ·(simp only[cfO,go_sem,qf,qc,qa,qe];try exact we)
 rintro⟨i,v,O3,O4⟩ ⟨i1,i2,i3⟩ K hK;simp only at i1 i2 i3 hK;have hOl:=qke p N i;have hib:i*N<=60*60:=Nat.mul_le_mul om hd
 by_cases hi:i<N
 case neg=>
  have k1:((i:Int)<N)=False:=wm;obtain rfl:i=N:=by omega
  have hTl:=qaM (cfO p i i);have k2:((4096:Int)<(cfO p i i).length)=False:=wm;simp (disch:=omega) only[k1,k2,zd1,zd2,go_sem]
  repeat' first|(apply qb;exact rvk;simp only[go_sem])
  refine VLe.tup ⟨?_,qi,trivial⟩
  first
   |(rw[ipo om];exact qf1 (λ_=>rfl) rfl)
   |(rw[slOf_mem,ipo ⟨rfl,om⟩];simp only[Nat.zero_add,Nat.mul_one];exact qf1 (λ_=>rfl) rfl)
 have k1:((i:Int)<N)=True:=wl;have k2:(0<=(i:Int))=True:=wl;simp (disch:=omega) only[k1,zd1,zd2,go_sem];refine qn (T:=λn:Nat×Nat×AObj×AObj=>qO 82 [(1,ze l),(2,kq d),(3,.op h.length 1 0),(10,.osl (h.length+2) n.2.1 1 0 (cfO p N i++cfI p i n.1).length),(11,.int .i64 (i:Int)),(12,.int .i64 (n.1:Int))])
  (H:=λn=>h++ [.mem 1 26 (coC x),.emp 1,AObj.mem n.2.1 51 (UQ (cfO p N i++cfI p i n.1)),n.2.2.1,n.2.2.2,.emp 0])
  (inv:=λn=>(i<n.1∧n.1<=N)∧qy [n.2.2.1] 0=true∧qy [n.2.2.2] 0=true) (m:=λn=>N-n.1) (i+1,v,O3,O4) ⟨⟨Nat.lt_succ_self _,hi⟩,i2,i3⟩ ?_ ?_
 ·simp only[qq0 p i (i+1) (nlr _),lan];refine Wk.temps ?_
  (simp only[go_sem,qf,qc,qa,qe];try exact we)
 rintro⟨k,w,P3,P4⟩ ⟨⟨n0,n1⟩,n2,n3⟩ K2 hK2;simp only at n0 n1 n2 n3 hK2;have n2': ∀m,qy (P3::m) 0=true:=λ_=>n2
 have n3': ∀m,qy (P4::m) 0=true:=λ_=>n3
 have hIl:=qkd p i k
 by_cases hk:k<N
 case neg=>
  have q1:((k:Int)<N)=False:=wm;obtain rfl:k=N:=by omega
  simp (disch:=omega) only[q1,zd1,zd2,go_sem];refine hK _ _ (i+1,w,P3,P4) ⟨hi,n2,n3⟩ (by simp only;omega) ?_;simp only[coC,cfO];refine Wk.temps ?_
  (simp only[go_sem,qf,qc,qa,qe];try exact we)
 have q1:((k:Int)<N)=True:=wl;have q2:(0<=(k:Int))=True:=wl;have hst:cfO p N i++cfI p i (k+1)=(cfO p N i++cfI p i k)++if i<k∧p i=p k then [[(i:Int),(k:Int)]] else []:=by
  show cfO p N i++(cfI p i k++_)=_;rw[List.append_assoc]
 have hLl:(cfO p N i++cfI p i k).length<=3660:=by rw[lap];omega
 obtain⟨L,hL⟩:=wg (cfO p N i++cfI p i k)
 rw[<-hL]at hst hLl;simp only[<-hL];have eC:=qaM L;have eTk:List.take L.length (UQ L)=UQ L:=ltl om;have di:=hpl i om;have dk:=hpl k om;have ci:=hpa i;have ck:=hpa k;unfold cfP at ci ck;obtain⟨a,ha⟩: ∃o,o=d.getD i default:=⟨_,rfl⟩
 obtain⟨b,hb⟩: ∃o,o=d.getD k default:=⟨_,rfl⟩
 have ea:=ha.symm;have eb:=hb.symm;rw[ea]at di ci;rw[eb]at dk ck;obtain⟨_,_,_,pa,_⟩:=UO di;obtain⟨_,_,_,pb,_⟩:=UO dk;obtain⟨ta1,ta2,_,ta4,ta5⟩:=qda pa;obtain⟨tb1,tb2,_,tb4,tb5⟩:=qda pb;have c3:=λh=>qgZ x a.sig h hz.sg
 have c4:=λh=>qgZ x b.sig h hz.sg
 obtain⟨Sa,hSa⟩: ∃S:Nat,qX x a.sig=S:=⟨(qX x a.sig).toNat,om⟩
 obtain⟨Sb,hSb⟩: ∃S:Nat,qX x b.sig=S:=⟨(qX x b.sig).toNat,om⟩
 rw[hSa,itn]at ta2 ta5;rw[hSb,itn]at tb2 tb5;have c5:=λh=>qgK x l Sa a.tok h ho ta2 hz.cl (by have:=hu.n;omega)
 have c6:=λh=>qgK x l Sb b.tok h ho tb2 hz.cl (by have:=hu.n;omega)
 have hna:=gH (t:=a.tok) ho ta2 ta4 ta5;have hnb:=gH (t:=b.tok) ho tb2 tb4 tb5;have hpa2:plN x l Sa a.tok=p i:=by unfold plN;rw[ine om,ci];unfold kF;rw[hSa,itn]
 have hpb2:plN x l Sb b.tok=p k:=by unfold plN;rw[ine om,ck];unfold kF;rw[hSb,itn]
 simp only[hpa2]at c5;simp only[hpb2]at c6;simp only[hSa]at c3;simp only[hSb]at c4;unfold coC at c3 c4 c5 c6
 by_cases e:p i=p k
 ·have q3:(p i=p k)=True:=eqt e;rw[ipo ⟨n0,e⟩]at hst;simp (disch:=omega) only[zd0,dcC,coC,k1,k2,q1,ea,go_sem]
  repeat' first|((first|refine cA (c3 _) ?_ ?_|refine cA (c5 _) ?_ ?_|refine cA (c4 _) ?_ ?_|refine cA (c6 _) ?_ ?_);exact flk;simp (disch:=omega) only[k1,k2,q1,q2,ea,eb,q3,n2',n3',eC,eTk,Nat.mul_one,go_sem])|with_reducible apply aiA|exact clz|fail
  have eD:List.drop 2 (zk [AV.int .i64 0] 2)= []:=rfl;have eg: ∀a:AV,(UQ L++ [a])[L.length]? =some a:=λa=>by rw[List.getElem?_append_right om,eC,Nat.sub_self];rfl
  have es: ∀a b:AV,(UQ L++ [a]).set L.length b=UQ L++ [b]:=λa b=>by rw[<-eC,List.set_append_right _ _ (nlr _),Nat.sub_self];rfl
  have eA:UQ L++ [qv [(i:Int),(k:Int)]]=UQ (L++ [[(i:Int),(k:Int)]]):=by unfold UQ;rw[List.map_append];rfl
  have eO: ∀r,zg (w+1) 51 (UQ (L++ [r]))= .mem (w+1) 51 (UQ (L++ [r])):=λr=>jU (by unfold UQ;simp)
  refine hK2 _ _ (k+1,w+1,.emp (qo (some P3)+1+1),.mem (qo (some P4)+1) 51 [.osl (h.length+3) (qo (some P3)+1) 1 0 2]) ⟨⟨by simp only;omega,hk⟩,rfl,rfl⟩ (by simp only;omega)
   (Wk.trans (Wk.fzCell (j:=h.length+2) (k:=h.length+3) (i:=L.length) (v:=w+1) (ty:=51) (cs:=UQ L++ [.osl (h.length+3) (qo (some P3)+1) 1 0 2]) (c:= .osl (h.length+3) (qo (some P3)+1) 1 0 2) (c':=qv [(i:Int),(k:Int)]) ?a1 (eg _) ?a3 om ?a4) ?a5)
  case a1=>
   simp only[go_sem]
   try rw[jU (by simp)]
  case a3=>simp only[go_sem]
  case a4=>
   rw[qgx,getO_app];simp only[List.getElem?_cons_succ,List.getElem?_cons_zero];rw[slOf_mem,ipo ⟨rfl,by simp⟩];refine VLe.sl_eq rfl (λj hj=> ?_)
   match j,hj with
   |0,_=>rfl
   |1,_=>rfl
  case a5=>
   simp only[go_sem,hst,es,eA,coC,lap,lco,lnl];refine Wk.temps ?_
   (simp only[zd0,go_sem,qf,qc,qa,qe];try exact we)
 ·have q3:(p i=p k)=False:=eqf e;rw[ine (λq=>e q.2),lan]at hst;simp (disch:=omega) only[zd0,dcC,coC,k1,k2,q1,ea,go_sem]
  repeat' first|((first|refine cA (c3 _) ?_ ?_|refine cA (c5 _) ?_ ?_|refine cA (c4 _) ?_ ?_|refine cA (c6 _) ?_ ?_);exact flk;simp (disch:=omega) only[k1,k2,q1,q2,ea,eb,q3,go_sem])
  refine hK2 _ _ (k+1,w,P3,P4) ⟨⟨by simp only;omega,hk⟩,n2,n3⟩ (by simp only;omega) ?_;simp only[hst,coC];refine Wk.temps ?_
  (simp only[zd0,go_sem,qf,qc,qa,qe];try exact we)
end RC
end
section
open Go Go.Proofs AF
def qtu:List Nat:= []
def c5s:C:=
 (vU [O1 4 (.box 0 59) 0,O1 5 (.box 1 65) 1,MC 8 (.bool false)] ((vU [O1 19 (.load (some 7)) 4,O1 20 (.call 24 true) 19,MV 21 20,vQ 22 21 (.load (some 4)) 5,⟨some 23,some
 (21,false),.bslc 2 4 1 65 [i6 0,.str [],i6 0,.str []] [(0,4)],[.t 22]⟩,vQ 24 21 (.call 31 true) 23,PT 25 21 24,MV 26 25,vS 27 26 2,vQ 28 26 .len 27,vT 29 26 (.bin .gtr) 28 (i6
 12),PT 30 26 29] (vV 30 (vX [ON 31 (.call 25 true) [],MV 8 31]))).seq (vU [vN 33 0 4,O1 34 (.load (some 4)) 33,vN 35 4 4,LD 36 35,O1 37 (.load (some 4)) 5,ON 38 (.call 32 true)
 [.t 34,.t 36,.t 37],MV 32 38,O1 39 (.ext 0) 32,O1 40 (.ext 1) 32,MV 9 39,MV 10 40] (vU [vN 42 0 4,O1 43 (.load (some 4)) 42,vN 44 4 4,LD 45 44,O1 46 (.load (some 4)) 5,ON 47
 (.call 33 true) [.t 43,.t 45,.t 46],MV 41 47,O1 48 (.ext 0) 41,O1 49 (.ext 1) 41,MV 11 48,MV 12 49] (vU [vN 51 0 4,O1 52 (.load (some 4)) 51,vN 53 4 4,LD 54 53,vN 55 5 4,LD 56
 55,ON 57 (.call 34 true) [.t 52,.t 54,.t 56],MV 50 57,O1 58 (.ext 0) 50,O1 59 (.ext 1) 50,MV 13 58,MV 14 59] (vU [vN 61 0 4,O1 62 (.load (some 4)) 61,vN 63 4 4,LD 64 63,vN 65 5
 4,LD 66 65,ON 67 (.call 35 true) [.t 62,.t 64,.t 66],MV 60 67,O1 68 (.ext 0) 60,O1 69 (.ext 1) 60,MV 15 68,MV 16 69] ((vU [vN 70 0 4,O1 71 (.load (some 4)) 70,vN 72 4 4,LD 73
 72,O1 74 (.load (some 4)) 5,ON 75 (.call 36 true) [.t 71,.t 73,.t 74],vN 76 0 4,O1 77 (.load (some 4)) 76,vN 78 4 4,LD 79 78,O1 80 (.load (some 4)) 5,ON 81 (.call 37 true) [.t
 77,.t 79,.t 80],BI 82 .neq 75 81,MV 83 82,vS 84 83 9,vS 85 83 11,vR 86 83 (.bin .neq) 84 85,PT 87 83 86,MV 88 87,vS 89 88 10,vS 90 88 12,vR 91 88 (.bin .neq) 89 90,PT 92 88
 91,MV 93 92,vS 94 93 13,vS 95 93 15,vR 96 93 (.call 38 true) 94 95,vQ 97 93 (.un UnOp.not) 96,PT 98 93 97,MV 99 98,vS 100 99 14,vS 101 99 16,vR 102 99 (.bin .neq) 100 101,PT
 103 99 102] (vV 103 (vX [MC 8 (.bool false)]))).seq (vU [vN 105 0 4,O1 106 (.load (some 4)) 105,vN 107 4 4,LD 108 107,MV 109 2,MV 110 3,ON 111 (.call 39 true) [.t 106,.t 108,.t
 109,.t 110],MV 104 111,O1 112 (.ext 0) 104,O1 113 (.ext 1) 104,MV 17 112,MV 10 113] (vU [vN 115 0 4,O1 116 (.load (some 4)) 115,vN 117 4 4,LD 118 117,MV 119 2,MV 120 3,ON 121
 (.call 40 true) [.t 116,.t 118,.t 119,.t 120],MV 114 121,O1 122 (.ext 0) 114,O1 123 (.ext 1) 114,MV 18 122,MV 12 123] (vX [MV 124 17,MV 125 18,O2 126 (.call 18 true) 124 125,MV
 127 126,MG 128 127 true 10,MG 129 127 true 12,P2 130 127 true (.bin .eql) 128 129,PF 131 127 130,MV 132 131,MG 133 132 true 2,P1 134 132 true (.call 19 true) 133,MG 135 132
 true 2,P1 136 132 true (.call 41 true) 135,P2 137 132 true (.call 18 true) 134 136,PF 138 132 137,MV 139 138,PN 140 139 true (.call 25 true) [],PF 141 139 140,MV 8
 141]))))))))))
theorem qBh:qI Tryz.prog 5 142 3 [RV.tmp 8] c5s:=fi Tryz.f5 [4,5,23] qtu []
end
section
open Go Go.Proofs AF HY LN
namespace RC
theorem qBP{x:Co}{l:List Un}{d:List Dc}(hd:d.length<=60):(cfL x l d).length<=1000000∧ ∀j,((cfL x l d).getD j []).length<=1000000:=by
 unfold cfL;split
 ·obtain⟨_,h2⟩:=qw2 (cfP x l d) d.length;have h1:=qke (cfP x l d) d.length d.length;have h3:d.length*d.length<=60*60:=Nat.mul_le_mul hd hd;refine⟨om,λj=> ?_⟩
  by_cases hj:j<(cfO (cfP x l d) d.length d.length).length
  ·rw[h2 _ _ (jf (a:= []) hj)];decide
  ·rw[gdqA,List.getElem?_eq_none om];exact nzl _
 ·exact⟨nzl _,λj=>by rw[List.getD_nil];exact nzl _⟩
theorem qzi(a:Cq)(o:Dc)(b:List Wd)(k:Int)(h:wh)(hp:kt SG h)(hg:zT h frmN frmC)(hb:CqB a)(hbl:b.length<=9223372036854775807):
  ACalls Tryz.prog 5 [.agg (cqC a),.agg (dcC o),kn b,.int .i64 k] h (.bool true) h:=by
 have c1:=λh=>qEL a h hb
 have c0:=λl'=>qBu (h++l') (hp.app l') hg.app
 have zb1: ∀g,valL g .len [kn b]= .int .i64 b.length:=λ_=>rfl
 have zb2: ∀g,okL g .len [kn b]=True:=λ_=>eqt trivial
 have c3: ∀H j v cs,qt j H=some (.mem v 65 (dcC o++cs))->ACalls Tryz.prog 31 [.osl j v 4 0 1] H (.bool (qoV [o])) H:=λH j v cs hj=>by
  refine ACalls.borrow ((qy5 [o] [] (by simp)).le ⟨?_,trivial⟩ (qi)) rfl;simp only[rei_osl,if_true,go_sem];rw[hj,slOf_mem,ipo ⟨rfl,by simp[dcC]⟩];refine VLe.sl_eq rfl (λi hi=> ?_);obtain rfl:i=0:=by omega
  rfl
 unfold dcC at c3;unfold cqC at c1;cases e1:qy0 a with
 |true=>
  rw[e1]at c1;refine acO qBh ?_;simp (disch:=omega) only[c5s,cqC,dcC,go_sem]
  repeat' first|(refine qj ( .bool false) ?_;simp (disch:=omega) only[zb1,zb2,go_sem])|((first|refine cA (c1 _) ?_ ?_|refine cA (c0 _) ?_ ?_);exact flk;simp (disch:=omega) only[go_sem])|exact wa|fail
 |false=>
 have z:=qy1 e1;rw[e1]at c1;cases hgo:qoV [o]with
 |true=>
  simp only[hgo]at c3;refine acO qBh ?_;simp (disch:=omega) only[c5s,cqC,dcC,go_sem]
  repeat' first|(refine cA (c1 _) flk ?_;simp (disch:=omega) only[go_sem])
  refine cG (λ_=>c3 _ _ _ (List.drop 4 (zk [.int .i64 0,.str [],.int .i64 0,.str []] 1)) ?jj0) (λ_=>by exact flk) ?_
  case jj0=>simp only[go_sem]
  simp (disch:=omega) only[zb1,zb2,go_sem]
  repeat' first|(refine cA (c0 _) flk ?_;simp (disch:=omega) only[go_sem])|exact wa|fail
 |false=>
 simp only[hgo]at c3;obtain⟨_,d2,d3⟩:=qkX hgo;have hto:o.txt.length<=1000:=by have:=d3 o (List.mem_singleton.2 rfl);omega
 by_cases g12:12<b.length
 ·have k12:((12:Int)<b.length)=True:=wl;refine acO qBh ?_;simp (disch:=omega) only[c5s,cqC,dcC,go_sem]
  repeat' first|(refine cA (c1 _) flk ?_;simp (disch:=omega) only[go_sem])
  refine cG (λ_=>c3 _ _ _ (List.drop 4 (zk [.int .i64 0,.str [],.int .i64 0,.str []] 1)) ?jj1) (λ_=>by exact flk) ?_
  case jj1=>simp only[go_sem]
  simp (disch:=omega) only[zb1,zb2,k12,go_sem]
  repeat' first|(refine cA (c0 _) flk ?_;simp (disch:=omega) only[go_sem])|exact wa|fail
 have k12:((12:Int)<b.length)=False:=wm;have zx:=z.x;have zl:=z.l;have zd:=z.d;have ztx: ∀o∈a.d,o.txt.length<=1000:=λo ho=>by have:=z.t o ho;omega
 have c20:=λl'=>qEb a.x a.l o (h++l') zx zl (hp.app l') hg.app hto
 have c46:=λl'=>qAm a.x a.l o (h++l') zx zl (hp.app l') hto
 have c47:=λl'=>qEv a.x a.l a.d (h++l') zx zl (hp.app l') hg.app om ztx
 have c48:=λl'=>qw5 a.x a.l a.d (h++l') zx zl (hp.app l') om ztx
 have c49:=λl'=>qEy a.x a.l o (h++l') zx zl (hp.app l') hg.app hto
 have c50:=λl'=>qq3 a.x a.l o (h++l') zx zl (hp.app l') hto
 have hcb:=qBP (x:=a.x) (l:=a.l) (d:=a.d) om;have c51:=λh=>qAa (cfL a.x a.l a.d) h hcb.1 hcb.2
 have c52:=λl'=>qzH a.x a.l b k (h++l') zx zl om (hp.app l')
 have c53:=λl'=>qzI a.x a.l b k (h++l') zx zl om (hp.app l')
 have hol:=qrD b k b.length;have hrl:(qpL a.x a.l b k).length<=1000000000:=by
  unfold qpL;split
  ·omega
  ·exact nzl _
 have c36:=λh=>qBg (qpL a.x a.l b k) (qpL a.x a.l b k) h hrl hrl
 rw[dqt rfl]at c36;have c37:=λh=>qqO b h om
 have c54:=λh=>qA4 b h om
 have hwl:(qbY b).length<=1000000000:=by unfold qbY;rw[List.length_map];omega
 have c55:=λh=>qBg (qbY b) (qbY b) h hwl hwl
 rw[dqt rfl]at c55;obtain⟨E,hE⟩:=wg (qeZ a.x a.l o)
 obtain⟨U,hU⟩:=wg (qvm a.x a.l o)
 obtain⟨T,hT⟩:=wg (cfL a.x a.l a.d)
 obtain⟨G,hG⟩:=wg (cfE a.x a.l a.d)
 obtain⟨R,hR⟩:=wg (qpL a.x a.l b k)
 obtain⟨Q,hQ⟩:=wg (qvf a.x a.l k)
 obtain⟨W,hW⟩:=wg (qbY b)
 simp only[<-hE,<-hU]at c20 c46 c49 c50;simp only[<-hT,<-hG]at c47 c48;simp only[<-hT]at c51;simp only[<-hR,<-hQ]at c52 c53;simp only[<-hR]at c36;simp only[<-hW]at c37 c54 c55;clear hE hU hT hG hR hQ hW hcb hol hrl hwl ztx;unfold coC dcC at c20 c46 c49 c50;unfold coC at c47 c48 c52 c53;refine acO qBh ?_;simp (disch:=omega) only[c5s,cqC,dcC,go_sem]
 repeat' first|(refine cA (c1 _) flk ?_;simp (disch:=omega) only[go_sem])
 refine cG (λ_=>c3 _ _ _ (List.drop 4 (zk [.int .i64 0,.str [],.int .i64 0,.str []] 1)) ?jj2) (λ_=>by exact flk) ?_
 case jj2=>simp only[go_sem]
 simp (disch:=omega) only[zb1,zb2,k12,go_sem]
 repeat' first|((first|refine cA (c20 _) ?_ ?_|refine cA (c46 _) ?_ ?_|refine cA (c47 _) ?_ ?_|refine cA (c48 _) ?_ ?_|refine cA (c49 _) ?_ ?_|refine cA (c50 _) ?_ ?_|refine cG (λe=>c51 _) ?_ ?_|refine cA (c52 _) ?_ ?_|refine cA (c53 _) ?_ ?_|refine cA (c36 _) ?_ ?_|refine cG (λe=>c37 _) ?_ ?_|refine cG (λe=>c54 _) ?_ ?_|refine cG (λe=>c55 _) ?_ ?_|refine cG (λe=>c0 _) ?_ ?_);exact flk;simp (disch:=omega) only[go_sem])|exact wa|with_reducible apply aiA|exact clz|fail
end RC
end
section
open Go Go.Proofs AF HY Go.ChangeShapes Go.RowKit
namespace LN
theorem qCC : Tryz.prog.globalNamed "internal/strconv.uint64pow10" = some 1 := by kernel_rfl
theorem qCE : Tryz.prog.globalNamed "strconv.ErrSyntax" = some 2 := by kernel_rfl
theorem qCD : Tryz.prog.globalNamed "strconv.ErrRange" = some 3 := by kernel_rfl
theorem qDT : Tryz.prog.globalNamed "apograph/transcript.forms" = some 4 := by kernel_rfl
theorem qpE{w w':World}(h:qrQ w)(e:w'.heap[1]? =w.heap[1]?):qrQ w':=by
 unfold qrQ Lib.TabIs at*;rw[qdX qCC e];exact h
theorem qfR : "*" ++ "errors.errorString" = "*errors.errorString" := by decide
theorem qrJ (u : TypeId) (h : Tryz.prog.typeName? 3 u = some "*errors.errorString") : u = 427 :=
 typeName_ptr_named (nm := "errors.errorString") (by rw [qfR]; kernel_rfl) (by kernel_rfl) (by decide) u (by rw [qfR]; exact h)
structure Fr where
 s:List UInt8
 a:Bool
 b:Bool
 c:Bool
def Fr.av(r:Fr):wj:= [.str r.s,.bool r.a,.bool r.b,.bool r.c]
def Fr.vl(r:Fr):List Value:= [.string ⟨r.s.toArray⟩,.bool r.a,.bool r.b,.bool r.c]
def Fr.da{H:Type}(r:Fr):DataW H:= .agg [.lit (.string r.s),.lit (.bool r.a),.lit (.bool r.b),.lit (.bool r.c)]
def frL:List Fr:= [⟨[],false,false,false⟩,⟨[],true,false,false⟩,⟨[108,98],false,false,false⟩,⟨[112,98],true,false,false⟩,⟨[115,101,99],true,false,false⟩,⟨[118],false,false,false⟩,
 ⟨[103,97,112],false,true,false⟩,⟨[117,110,99,108,101,97,114],false,false,true⟩,⟨[97,100,100],false,true,true⟩,⟨[100,101,108],false,true,true⟩,⟨[97,98],true,false,true⟩,⟨[110,97,109,101],true,false,true⟩]
theorem qyV:RC.frmC=frL.flatMap Fr.av:=rfl
theorem qyW:(YtmieflnoheifbaaGreatDoor.Rows.laid_apograph_transcript_forms:DataW Unit)= .agg (frL.map Fr.da):=rfl
theorem qCc{α β:Type}{f:α->List β}(hf: ∀a,(f a).length=4): ∀(l:List α) (i j:Nat),j<4->(l.flatMap f)[i*4+j]? =(l[i]?).bind λa=>(f a)[j]? :=by
 intro l
 induction l with
 |nil=>intro i j _;simp
 |cons a l ih=>
  intro i j hj;rw[List.flatMap_cons];cases i with
  |zero=>
   rw[Nat.zero_mul,Nat.zero_add,List.getElem?_append_left (by rw[hf];exact hj)];rfl
  |succ i=>
   rw[List.getElem?_append_right (by rw[hf];omega),hf,show (i+1)*4+j-4=i*4+j by omega,ih i j hj];rfl
theorem qcO:Tryz.prog.cellsOf 414=4:=by kernel_rfl
theorem qfh:Tryz.prog.cellsOf 415=48:=by kernel_rfl
theorem qod:Tryz.prog.cellsOf 9=1:=by kernel_rfl
theorem qob:Tryz.prog.cellsOf 4=1:=by kernel_rfl
theorem qzT{H:Type}{enc:TypeId×Value->H}{w:World}{base fuel:Nat}{spare:Nat->Bool}{held:Bool}{cs:List Value}{x:DataW H×List MemPlace}{r:Fr}
  (h:DataW.trod enc Tryz.prog w base spare held fuel 414 cs=some x) (hx:x.1=r.da):cs=r.vl:=by
 obtain⟨xs,n,_,hxe,hl,hxl,hf⟩:=DataW.trod_struct Tryz.underlying414 h;rw[qcO]at hl
 match cs,hl with
 | [v0,v1,v2,v3],_=>
 match xs,hxl with
 | [y0,y1,y2,y3],_=>
  have h0:DataW.trod enc Tryz.prog w base spare held n 9 (([v0,v1,v2,v3].drop 0).take (Tryz.prog.cellsOf 9))= [y0,y1,y2,y3][0]? :=hf 0 _ rfl;have h1:DataW.trod enc Tryz.prog w base spare held n 4 (([v0,v1,v2,v3].drop 1).take (Tryz.prog.cellsOf 4))= [y0,y1,y2,y3][1]? :=hf 1 _ rfl;have h2:DataW.trod enc Tryz.prog w base spare held n 4 (([v0,v1,v2,v3].drop 2).take (Tryz.prog.cellsOf 4))= [y0,y1,y2,y3][2]? :=hf 2 _ rfl;have h3:DataW.trod enc Tryz.prog w base spare held n 4 (([v0,v1,v2,v3].drop 3).take (Tryz.prog.cellsOf 4))= [y0,y1,y2,y3][3]? :=hf 3 _ rfl;rw[qod]at h0;rw[qob]at h1 h2 h3;obtain⟨s,e0,x0,_⟩:=DataW.trod_string Tryz.underlying9 h0;obtain⟨b1,e1,x1⟩:=DataW.trod_bool Tryz.underlying4 h1;obtain⟨b2,e2,x2⟩:=DataW.trod_bool Tryz.underlying4 h2;obtain⟨b3,e3,x3⟩:=DataW.trod_bool Tryz.underlying4 h3;have hy:([y0,y1,y2,y3]:List (DataW H×List MemPlace)).map (·.1)= [.lit (.string r.s),.lit (.bool r.a),.lit (.bool r.b),.lit (.bool r.c)]:=by
   have hx:=hxe▸hx;exact DataW.agg.inj hx
  rw[x0,x1,x2,x3]at hy;simp at hy e0 e1 e2 e3;obtain⟨g0,g1,g2,g3⟩:=hy;unfold Fr.vl;subst e0 e1 e2 e3;rw[<-g0,g1,g2,g3]
theorem qCB {W : World} {rest : List (String × DataW Unit)} (h : laidMet Tryz.prog (("apograph/transcript.forms", YtmieflnoheifbaaGreatDoor.Rows.laid_apograph_transcript_forms) :: rest) W) : qhg 4 RC.frmC W := by
 obtain⟨ps,⟨g',t',cs,fuel,p,q,hg',ht',hvar,hd,_,_⟩,_⟩:=h;obtain rfl:=Option.some.inj (qDT.symm.trans hg');obtain rfl:415=t':=Option.some.inj ((show (Tryz.prog.globals[4]?).map (·.type)=some 415 by kernel_rfl).symm.trans ht');obtain⟨xs,m,_,hxe,hl,hxl,hr⟩:=DataW.trod_array Tryz.underlying415 hd;rw[qfh]at hl;have hxm:xs.map (·.1)=frL.map Fr.da:=by
  have:=congrArg Prod.fst hxe
  rw[qyW]at this;exact (DataW.agg.inj this).symm
 have rows: ∀i r,frL[i]? =some r->(cs.toList.drop (i*4)).take 4=r.vl:=λi r hi=>by
  have hil:i<12:=(lgs.1 hi).1;have e1:(xs.map (·.1))[i]? =some r.da:=by rw[hxm,List.getElem?_map,hi];rfl
  rw[List.getElem?_map,Option.map_eq_some_iff]at e1;obtain⟨y,hy,hy1⟩:=e1;have h1:=hr i hil;rw[hy,qcO]at h1;exact qzT h1 hy1
 have hv: ∃T fz,W.heap[4]? =some (.cells cs T fz):=by
  unfold World.var? at hvar;rw[qDT]at hvar;simp only[Option.bind_some]at hvar;split at hvar
  ·rename_i c T fz hc;cases hvar;exact⟨_,_,hc⟩
  ·cases hvar
 obtain⟨T,fz,hc⟩:=hv;refine⟨cs,T,fz,hc,?_,?_⟩
 ·have:cs.size=48:=by simpa using hl
  rw[this];exact Nat.le_of_eq rfl
 intro i c x hi hx;have hij:i=i/4*4+i%4:=by omega
 rw[qyV,hij,qCc (λ_=>rfl) frL _ _ (Nat.mod_lt _ (by decide)),Option.bind_eq_some_iff]at hi;obtain⟨r,hr1,hr2⟩:=hi;have h2:=rows _ _ hr1;have h3:r.vl[i%4]? =some x:=by
  rw[<-h2,List.getElem?_take,ipo (Nat.mod_lt _ (by decide)),List.getElem?_drop,<-hij];simpa using hx
 have h4:i%4<4:=Nat.mod_lt _ (by decide);obtain⟨j,hj⟩:=wg (i%4)
 rw[<-hj]at hr2 h3 h4
 match j,h4 with
 |0,_=>cases hr2;cases h3;exact⟨rfl,λ_ _=> .str⟩
 |1,_=>cases hr2;cases h3;exact⟨rfl,λ_ _=> .bool⟩
 |2,_=>cases hr2;cases h3;exact⟨rfl,λ_ _=> .bool⟩
 |3,_=>cases hr2;cases h3;exact⟨rfl,λ_ _=> .bool⟩
theorem qtf{w w':World}(h:qhg 4 RC.frmC w)(e:w'.heap[4]? =w.heap[4]?):qhg 4 RC.frmC w':=by
 obtain⟨arr,T,fz,h1,h2⟩:=h;exact⟨arr,T,fz,e.trans h1,h2⟩
def qbH:List Nat:= [4,1,2,3]
def qz6(w:World):Prop:=RC.SG w∧qhg 4 RC.frmC w
theorem qz7{W:World}(h:laidMet Tryz.prog YtmieflnoheifbaaGreatDoor.Rows.topFollowedRow.laid W):qrQ W∧qA6 W∧qhg 4 RC.frmC W:=by
 have h2:=laidMet.tail (laidMet.tail h);have h3:=laidMet.tail h2;have h4:=laidMet.tail h3;have h5:=laidMet.tail h4;obtain⟨a,s,e1,_⟩:=laid_sentinel (g:=3) (ti:=264) (tp:=427) (te:=429) (ts:=9) h3 qCD (by kernel_rfl) Tryz.underlying264 qrJ Tryz.underlying427 Tryz.underlying429 rfl rfl Tryz.underlying9 (by kernel_rfl) (by kernel_rfl);obtain⟨b,t,e2,_⟩:=laid_sentinel (g:=2) (ti:=264) (tp:=427) (te:=429) (ts:=9) h4 qCE (by kernel_rfl) Tryz.underlying264 qrJ Tryz.underlying427 Tryz.underlying429 rfl rfl Tryz.underlying9 (by kernel_rfl) (by kernel_rfl);exact⟨Lib.tabIs_of_head (t:=398) (e:=198) (n:=20) qCC (by kernel_rfl) Tryz.underlying398 Tryz.underlying198 (by kernel_rfl) (by kernel_rfl) h2,⟨⟨_,_,e2⟩,_,_,e1⟩,qCB h5⟩
theorem qp7{W:World}(h:laidMet Tryz.prog YtmieflnoheifbaaGreatDoor.Rows.topFollowedRow.laid W): ∀b,b∈qbH-> ∃arr T fz,W.heap[b]? =some (.cells arr T fz):=by
 intro b hb;obtain⟨h1,⟨⟨_,_,h2⟩,_,_,h3⟩,arr,T,fz,h4,_⟩:=qz7 h;have e:b=4∨b=1∨b=2∨b=3:=by simpa[qbH] using hb
 rcases e with rfl|rfl|rfl|rfl
 ·exact⟨_,_,_,h4⟩
 ·exact qcq qCC h1
 ·exact qcq qCE h2
 ·exact qcq qCD h3
theorem quz{W:World}(h:laidMet Tryz.prog YtmieflnoheifbaaGreatDoor.Rows.topFollowedRow.laid W): ∀w':World,(∀b,b∈qbH->w'.heap[b]? =W.heap[b]?)->qz6 w':=by
 intro w' hs;obtain⟨h1,⟨⟨t1,p1,h2⟩,t2,p2,h3⟩,h4⟩:=qz7 h;refine⟨⟨qpE h1 (hs 1 (by simp[qbH])),⟨t1,p1,?_⟩,t2,p2,?_⟩,qtf h4 (hs 4 (by simp[qbH]))⟩
 ·rw[qdX qCE (hs 2 (by simp[qbH]))];exact h2
 ·rw[qdX qCD (hs 3 (by simp[qbH]))];exact h3
theorem quy:kt RC.SG [.pin qbH qz6]:=⟨0,_,_,rfl,λ_ h=>h.1⟩
theorem qux:zT [.pin qbH qz6] RC.frmN RC.frmC:=⟨0,_,_,rfl,by simp[qbH],λ_ h=>h.2⟩
end LN
end
