import Derived.Test.YtmieflnoheifbaaGreatDoorK17
import Derived.Test.YtmieflnoheifbaaGreatDoorK3
import Derived.Test.YtmieflnoheifbaaGreatDoorK5
import Derived.Test.YtmieflnoheifbaaGreatDoorK8
import Derived.Test.YtmieflnoheifbaaGreatDoorProg
import Derived.Test.YtmieflnoheifbaaGreatDoorK16
import Derived.Test.YtmieflnoheifbaaGreatDoorK14
import Derived.Test.YtmieflnoheifbaaGreatDoorK13
import Derived.Test.YtmieflnoheifbaaGreatDoorK9
import Derived.Test.YtmieflnoheifbaaGreatDoorRows
import Derived.LaidLaws
import Derived.OpenShut
set_option linter.all false
set_option maxHeartbeats 128000000
set_option maxRecDepth 100000
section
open Go Go.Proofs AF HY LN
namespace RC
theorem NV(h:JN):ACalls Tryz.prog 71 [.nl] h .nl h:=by
 refine acO Ab ?_;simp (disch:=omega) only[M8,go_sem]
 repeat' first|exact tF|fail
theorem TM(a:Int)(h:JN):ACalls Tryz.prog 68 [qx [a],.int .i64 0] h (qx []) h:=by
 have s1:=λh=>yJ h [a]
 have c1:=λh=>RH 0 h oma
 have z1: ∀g,valL g .len [qx [a]]= .int .i64 1:=λ_=>rfl
 have z2: ∀g,okL g .len [qx [a]]=True:=λ_=>eqt trivial
 have e5:IntKind.u64.wrap 1=1:=by decide
 have e6:IntKind.u64.wrap 0=0:=by decide
 rw[show ((0:Nat):Int)=0 from rfl]at c1;refine acO HO ?_;simp (disch:=omega) only[ND,z1,z2,e5,e6,go_sem]
 repeat' first|(refine cA (c1 _) flk ?_;simp (disch:=omega) only[s1,go_sem])|(with_reducible first|intro _|apply aiA)|exact clz|fail
 ·rfl
 refine qr (T:=λ_:Unit=>qY 48 [(7,.osl (h.length+1) 1 1 0 0),(8,.int .i64 0)]) (H:=λ_=>h++ [.emp 1,.mem 1 3 []])
  (inv:=λ_=>True) (m:=λ_=>0) () trivial (Wk.temps ?_) ?_
 ·(simp only[go_sem,qg,qc,qb,qf];try exact tT)
 rintro⟨⟩-K hK;have q1:((0:Int)<0)=False:=eqf oma;simp (disch:=omega) only[go_sem]
 repeat' first|(apply qa;exact rvk;simp only[go_sem])|(with_reducible first|intro _|apply aiA)|exact clz|fail
 exact VLe.sl_eq rfl (λi hi=>absurd hi (nnz _))
theorem I2{hh:JN}{j v:Nat}(a:Int)(cs:JT)(hj:qu j hh=some (.mem v 3 (.int .i64 a::cs))):
  ACalls Tryz.prog 68 [.osl j v 1 0 1,.int .i64 0] hh (qx []) (qt j hh (.emp (v+1))):=by
 have hs:qG hh j=true:=by unfold qG;rw[hj]
 have e1:xa [j] hh=qt j hh (.emp (v+1)):=by show qt j hh (.emp (qo (qu j hh)+1))=_;rw[hj];rfl
 refine ACalls.frzd [j] (by show (qG hh j&&true)=true;rw[hs];rfl) ?_;rw[e1];refine (TM a _).le ⟨?_,qi,trivial⟩ (qi);have hc:=qJ hj;have e: [j].contains j=true:=by simp
 simp only[go_sem,e,if_true,hc];rw[hj,slOf_mem,ipo ⟨rfl,by simp⟩];refine VLe.sl_eq rfl (λi hi=> ?_);obtain rfl:i=0:=by omega
 rfl
theorem Ob(x:Co)(d:List Dc)(s:Int)(h:JN)(hz:yv x)(hp:kM SG h)(hg:jb h frmN frmC)(hd:d.length<=1000000)(ht: ∀o∈d,o.txt.length<=1000)(hN0:vaE x []=0->(rwA x [] d s.toNat).length<=1000000000):
  ACalls Tryz.prog 17 [.agg (coC x),.nl,vI d,.int .i64 s] h (.tup [jl (esR x [] d s),.int .i64 (esE x [] d s)]) h:=by
 have hu:aM []:=⟨by simp,λi=>by simp;exact nzl _,λi j=>by simp;exact nzl _,λi j=>by simp;exact nzl _⟩
 have c1:=λl'=>(YD x [] (h++l') hz hu (hp.app l')).le (args:= [.agg (coC x),.nl]) ⟨qi,qU,trivial⟩ (qi)
 have zu: ∀g l,valL g .len [qZ l]= .int .i64 l.length:=λ_ _=>rfl
 have zv: ∀g l,okL g .len [qZ l]=True:=λ_ _=>eqt trivial
 have zu1: ∀g l,valL g .len [strs l]= .int .i64 l.length:=λ_ _=>rfl
 have zv1: ∀g l,okL g .len [strs l]=True:=λ_ _=>eqt trivial
 have hE:esE x [] d s=(if vaE x []≠0 then vaE x [] else if s<0∨(x.sig.length:Int)<=s then 2 else if yo x [] d≠0 then yo x [] d else if 1024<(rwA x [] d s.toNat).length then 4 else 0):=rfl;unfold esR
 by_cases g:vaE x []=0
 case neg=>
  have k1:(vaE x []=0)=False:=eqf g;rw[ipo g]at hE;rw[hE,ine g];unfold coC at c1;refine acO wG ?_;simp (disch:=omega) only[fM,coC,go_sem]
  repeat' first|(refine cA (c1 _) flk ?_;simp (disch:=omega) only[k1,go_sem])|(apply qa;exact rvk;simp only[go_sem])
  exact VLe.tup ⟨qU,qi,trivial⟩
 rw[ine (by simpa using g)]at hE;have hN:=hN0 g;simp only[g]at c1;obtain⟨hca,hus,hcv⟩:=bD g;have ho:=j6 hca
 by_cases g2:s<0
 ·have k2:(s<0)=True:=eqt g2;rw[ipo (.inl g2)]at hE;rw[hE,ine (by decide)];unfold coC at c1;refine acO wG ?_;simp (disch:=omega) only[fM,coC,go_sem]
  repeat' first|(refine cA (c1 _) flk ?_;simp (disch:=omega) only[k2,go_sem])|(apply qa;exact rvk;simp only[go_sem])
  exact VLe.tup ⟨qU,qi,trivial⟩
 have k2:(s<0)=False:=eqf g2
 by_cases g3:(x.sig.length:Int)<=s
 ·have k3:((x.sig.length:Int)<=s)=True:=eqt g3;rw[ipo (.inr g3)]at hE;rw[hE,ine (by decide)];unfold coC at c1;refine acO wG ?_;simp (disch:=omega) only[fM,coC,go_sem]
  repeat' first|(refine cA (c1 _) flk ?_;simp (disch:=omega) only[k2,k3,zu1,zv1,go_sem])|(apply qa;exact rvk;simp only[go_sem])
  exact VLe.tup ⟨qU,qi,trivial⟩
 have k3:((x.sig.length:Int)<=s)=False:=eqf g3;rw[ine (λe=>e.elim g2 g3)]at hE;have c2:=λl'=>(Pl x [] d (h++l') hz hu (hp.app l') hg.app hca hd ht).le (args:= [.agg (coC x),.nl,vI d]) ⟨qi,qU,qi,trivial⟩ (qi)
 unfold IJ at c2
 by_cases g4:yo x [] d=0
 case neg=>
  have k4:(yo x [] d=0)=False:=eqf g4;simp only[ine g4]at c2;rw[ipo g4]at hE;rw[hE,ine g4];unfold coC at c1 c2;refine acO wG ?_;simp (disch:=omega) only[fM,coC,go_sem]
  repeat' first|((first|refine cA (c1 _) ?_ ?_|refine cA (c2 _) ?_ ?_);exact flk;simp (disch:=omega) only[k2,k3,k4,zu1,zv1,go_sem])|(apply qa;exact rvk;simp only[go_sem])|with_reducible apply aiA|exact clz|fail
  exact VLe.tup ⟨qU,qi,trivial⟩
 rw[ine (by simpa using g4)]at hE;simp only[g4,if_true]at c2;rw[hE];unfold coC at c1 c2;refine acO wG ?_;simp (disch:=omega) only[fM,coC,go_sem]
 repeat' first|((first|refine cA (c1 _) ?_ ?_|refine cA (c2 _) ?_ ?_);exact flk;simp (disch:=omega) only[k2,k3,zu1,zv1,go_sem])|with_reducible apply aiA|exact clz|fail
 have hd0:d= []:=by
  cases d with
  |nil=>rfl
  |cons o r=>
   exfalso
   have:=g4
   unfold yo at this;split at this
   ·cases this
   ·have h0:=jr.1 this 0 (by simp);have h1:=(xJ h0).2.2.2.2.1;have h2:vk x [] ((o::r).getD 0 default)= -1:=rfl;omega
 subst hd0;have zi: ∀g l,valL g .len [qx l]= .int .i64 l.length:=λ_ _=>rfl
 have zj: ∀g l,okL g .len [qx l]=True:=λ_ _=>eqt trivial
 have ePL:(plG x [] [] ([]:List Dc).length).length=0:=rfl;refine qE (I2 (j:=h.length+2) (-1) (List.drop 1 (zQ [.int .i64 0] 1)) ?j1) (by exact flk) ?_
 case j1=>simp only[go_sem]
 simp (disch:=omega) only[zi,zj,go_sem];refine qr (T:=λ_:Unit=>qY 154 [(1,.nl),(3,.int .i64 s),(4,.op h.length 1 0),(13,qx []),(56,.int .i64 0),(57,.int .i64 0)])
  (H:=λ_=>h++ [.mem 1 26 [.str x.sec,strs x.sig,qm x.tok,qn x.col],.emp 1,.emp 2,.emp 0,.emp 0,.emp 0,.emp 0,.emp 0,.emp 0,.emp 0,.emp 0,.emp 0,.emp 0,.emp 0,.emp 0,.emp 0])
  (inv:=λ_=>True) (m:=λ_=>0) () trivial (Wk.temps ?_) ?_
 ·(simp only[go_sem,qg,qc,qb,qf];try exact tT)
 rintro⟨⟩-K hK;have q1:((0:Int)<0)=False:=eqf oma;simp (disch:=omega) only[q1,go_sem];refine⟨_,_,Wk.ownNil (j:=h.length+3) (i:=0) (k:=h.length+15) (v:=1) (ty:=45) (cs:= [.nl]) (ve:=0) (sz:=7) ?m1 rfl ?m2,?_⟩
 case m1=>simp only[go_sem]
 case m2=>simp only[go_sem]
 simp (disch:=omega) only[List.set_cons_zero,go_sem];have bne5:(h.length+6 !=h.length+5)=true:=by simp
 have zc: ∀g l,valL g .len [qn l]= .int .i64 l.length:=λ_ _=>rfl
 have zd: ∀g l,okL g .len [qn l]=True:=λ_ _=>eqt trivial
 refine jX ?T ?H ?h1 ?h2
 case h1=>
  simp (disch:=omega) only[zc,zd,go_sem]
  repeat' first|(with_reducible apply aiA)|(refine qE (NV _) (by exact flk) ?_;simp (disch:=omega) only[zc,zd,go_sem])
  all_goals first
   |omega
   |rfl
   |exact bne5
 case h2=>
 simp (disch:=omega) only[go_sem];obtain⟨S,hS⟩: ∃S:Nat,s=S:=⟨s.toNat,oma⟩
 subst hS;rw[itn]at hN ⊢;have hSl:S<x.sig.length:=by omega
 obtain⟨MC,hMC⟩:=Qt ( [AV.int .i64 x.col.length,.int .i64 x.col.length,.nl])
 rw[<-hMC];obtain⟨O5,hO5⟩:=Qt (AObj.mem 1 39 (AV.int .i64 x.col.length:: .int .i64 x.col.length:: .nl::List.drop 3 (zQ [.int .i64 0,.int .i64 0,.nl] 1)))
 rw[<-hO5];obtain⟨X0,hX0⟩:=Qt (AObj.mem 1 26 [.str x.sec,strs x.sig,qm x.tok,qn x.col])
 have lX0: ∀n,lowO n X0:=by
  intro n;rw[hX0];intro c hc;simp at hc;rcases hc with rfl|rfl|rfl|rfl<;>rfl
 refine qr (T:=λi:EsS=>qY 154 [(1,.nl),(3,.int .i64 (S:Int)),(4,.op h.length 1 0),(13,qx []),(16,.op (h.length+3) 1 0),(17,.op (h.length+4) 1 0),(18,.int .i64 (nxT x [] i.k:Int)),(78,.osl (h.length+6) 1 3 0 1),(79,.int .i64 1),(80,.int .i64 i.k)])
  (H:=λi=>h++ [.mem 1 26 [.str x.sec,strs x.sig,qm x.tok,qn x.col],.emp 1,.emp 2,.mem 1 45 [.osl (h.length+15) i.vb 7 0 (rwK x [] [] S i.k).length],.mem 1 135 [.fn (.func 69) [] [.op (h.length+3) 1 0]],O5,.mem 1 39 MC,i.O7,i.O8,i.O9,i.O10,i.O11,i.O12,.emp 0,.emp 0,ze i.vb 133 (jv (bsW (rwK x [] [] S i.k)))])
  (inv:=λi=>i.k<=1∧ ∀O∈ [i.O7,i.O8,i.O9,i.O10,i.O11,i.O12],qG [O] 0=true∧ ∀n,lowO n O) (m:=λi=>1-i.k) ⟨0,0,.emp 0,.emp 0,.emp 0,.emp 0,.emp 0,.emp 0⟩ ⟨nzl _,λO hO=>by
   simp at hO;subst hO;exact⟨rfl,λ_=>trivial⟩⟩ (Wk.temps ?_) ?_
 ·(simp only[go_sem,qg,qc,qb,qf];try (repeat' first|(with_reducible apply aiA)|(apply qe;omega)|(apply qd;rfl)|exact qi))
  done
 rintro⟨k,vb,O7,O8,O9,O10,O11,O12⟩ ⟨i1,i2⟩ K hK;simp only at i1 i2 hK;obtain⟨s7,l7⟩:=i2 O7 (by simp);obtain⟨s8,l8⟩:=i2 O8 (by simp);obtain⟨s9,l9⟩:=i2 O9 (by simp);obtain⟨s10,l10⟩:=i2 O10 (by simp);obtain⟨s11,l11⟩:=i2 O11 (by simp);obtain⟨s12,l12⟩:=i2 O12 (by simp);have s7': ∀m,qG (O7::m) 0=true:=λ_=>s7
 have s8': ∀m,qG (O8::m) 0=true:=λ_=>s8
 by_cases hk:k<=0
 case neg=>
  have q1:((k:Int)<(1:Int))=False:=eqf oma;have eR:rwK x [] [] S k=rwA x [] [] S:=by unfold rwK;rw[lnl,ine hk]
  rw[eR]
  by_cases g5:1024<(rwA x [] [] S).length
  ·have q5:((1024:Int)<(rwA x [] [] S).length)=True:=eqt oma;simp only[ipo g5];simp (disch:=omega) only[q1,q5,go_sem]
   repeat' first|(apply qa;exact rvk;simp only[go_sem])|with_reducible apply aiA|exact clz|fail
   exact VLe.tup ⟨qU,qi,trivial⟩
  ·have q5:((1024:Int)<(rwA x [] [] S).length)=False:=eqf oma;simp only[ine g5];simp (disch:=omega) only[q1,q5,go_sem]
   repeat' first|(apply qa;exact rvk;simp only[go_sem])|with_reducible apply aiA|exact clz|fail
   exact VLe.tup ⟨cH (jU _).symm,qi,trivial⟩
 have q1:((k:Int)<(1:Int))=True:=eqt oma;have q2:(0<=(k:Int))=True:=eqt oma;have hk0:k=0:=by omega
 have hMl:MC.length=3:=by rw[hMC];rfl
 have q3:(k*3+3<=MC.length)=True:=eqt oma;have eR:rwK x [] [] S k=rwL x [] [] S k:=by unfold rwK;rw[lnl,ipo hk]
 have eN:nxT x [] k=zf [] k:=by unfold nxT;rw[lnl,ipo hk]
 rw[eR,eN];obtain⟨f,hf⟩:=Qt x.col.length
 obtain⟨t',ht'⟩:=Qt x.col.length
 obtain⟨RV,hRV⟩:=Qt AV.nl
 have eM:List.take 3 (List.drop (k*3) MC)= [.int .i64 (f:Int),.int .i64 (t':Int),RV]:=by rw[hk0,hMC,hf,ht',hRV];rfl
 have a5:zf [] k<=f:=by rw[hk0];exact nzl _
 have a6:f<=x.col.length:=by omega
 have lRV: ∀n,qR n RV=true:=λn=>by rw[hRV];rfl
 have c3:=λh=>Lp x (zf [] k) f S h
 have hit:=itS x S (zf [] k) f hz ho hSl a6 a5;have hpF:=vV ho hSl (f:=zf [] k) (d:=f-zf [] k) oma;obtain⟨ps,hps⟩:=Qt (spk x S (zf [] k) (f-zf [] k))
 have hxl:(spX x S (zf [] k) (f-zf [] k))=ps.map λp=> [.agg (pcC p)]:=by unfold spX;rw[hps]
 rw[hxl]at hit;rw[<-hps]at hpF;unfold coC at c3 hit;simp (disch:=omega) only[q1,q2,q3,eM,s7',s8',go_sem]
 repeat' first|(refine cA (c3 _) flk ?_;simp (disch:=omega) only[go_sem])|with_reducible apply aiA|exact clz|fail
 obtain⟨L0,hL0⟩:=Qt (rwL x [] [] S k)
 have hLF: ∀r∈L0,PcF r.p:=by rw[hL0];exact gS ho hus hSl (λi hi=>absurd hi (by simp)) hk
 have hLn:(L0++rwM ps (-1) (-1)).length<=1000000000:=by
  refine Nat.le_trans ?_ hN;rw[hL0,hps,hf,hk0];exact nlr _
 rw[<-hL0];obtain⟨P7,hP7⟩:=Qt (AObj.mem (qo (some O7)+1) 3 [.int .i64 (k:Int)])
 obtain⟨P8,hP8⟩:=Qt (AObj.mem (qo (some O8)+1) 39 [.int .i64 (f:Int),.int .i64 (t':Int),RV])
 have hP7l:qG [P7] 0=true∧ ∀n,lowO n P7:=by
  rw[hP7];refine⟨rfl,λn c hc=> ?_⟩;rw[List.mem_singleton]at hc;subst hc;rfl
 have hP8l:qG [P8] 0=true∧ ∀n,lowO n P8:=by
  rw[hP8];refine⟨rfl,λn c hc=> ?_⟩;simp only[List.mem_cons,List.not_mem_nil,or_false]at hc;rcases hc with rfl|rfl|rfl
  ·rfl
  ·rfl
  ·exact lRV n
 have cP7: ∀m,cellsOf (P7::m) 0 (qo (some O7)+1)=some [.int .i64 (k:Int)]:=λm=>by rw[hP7];simp only[go_sem]
 rw[<-hP7,<-hP8];have lP: ∀L:List Rw,∀v n,lowO n (ze v 133 (jv (bsW L))):=λL v n=>jd (yM _ n)
 have hLow: ∀(L M:List Rw) (v w:Nat) O A,(∀n,lowO n A)->LowI (h++ [.mem 1 26 [.str x.sec,strs x.sig,qm x.tok,qn x.col],.emp 1,.emp 2,.mem 1 45 [.osl (h.length+15) w 7 0 M.length],.mem 1 135 [.fn (.func 69) [] [.op (h.length+3) 1 0]],O5,.mem 1 39 MC,P7,P8,O,O10,O11,O12,.emp 0,.emp 0,ze w 133 (jv (bsW M))])
   (h++ [.mem 1 26 [.str x.sec,strs x.sig,qm x.tok,qn x.col],.emp 1,.emp 2,.mem 1 45 [.osl (h.length+15) v 7 0 L.length],.mem 1 135 [.fn (.func 69) [] [.op (h.length+3) 1 0]],O5,.mem 1 39 MC,P7,P8,A,O10,O11,O12,.emp 0,.emp 0,ze v 133 (jv (bsW L))]):=λL M v w O A lA=>by
  refine⟨by simp,λo ho=> ?_⟩;rcases List.mem_append.1 ho with h1|h1
  ·exact .inl (List.mem_append_left _ h1)
  ·simp only[List.mem_cons,List.not_mem_nil,or_false]at h1;rcases h1 with rfl|rfl|rfl|rfl|rfl|rfl|rfl|rfl|rfl|rfl|rfl|rfl|rfl|rfl|rfl|rfl
   ·left;simp
   ·left;simp
   ·left;simp
   ·right;refine⟨λc hc=> ?_,λc hc=> ?_⟩<;>
    ·rw[List.mem_singleton]at hc;subst hc;simp[qR]
     try omega
   ·left;simp
   ·left;simp
   ·left;simp
   ·left;simp
   ·left;simp
   ·right;exact⟨lA _,lA _⟩
   ·left;simp
   ·left;simp
   ·left;simp
   ·left;simp
   ·left;simp
   ·right;exact⟨lP _ _ _,lP _ _ _⟩
 refine zn hit (λa ha=> ?_)
  (S:=λi hh=> ∃A,qG [A] 0=true∧(∀n,lowO n A)∧hh=h++ [.mem 1 26 [.str x.sec,strs x.sig,qm x.tok,qn x.col],.emp 1,.emp 2,.mem 1 45 [.osl (h.length+15) (vb+i) 7 0 (L0++rwM (ps.take i) (-1) (-1)).length],.mem 1 135 [.fn (.func 69) [] [.op (h.length+3) 1 0]],O5,.mem 1 39 MC,P7,P8,A,O10,O11,O12,.emp 0,.emp 0,ze (vb+i) 133 (jv (bsW (L0++rwM (ps.take i) (-1) (-1))))]) (E:=λ_ _=>False) ?_ ?_ ?_ ?_ ?_ ?_ ?_
 ·obtain⟨c,_,rfl⟩:=List.mem_map.1 ha;rfl
 ·rintro i hh ⟨A,_,lA,rfl⟩;exact hLow _ _ _ _ _ _ lA
 ·intro s hh hf;exact hf.elim
 ·exact⟨O9,s9,l9,by simp[rwM]⟩
 ·simp[qR,qR.lowVs]
  repeat' apply aiA
  all_goals first|rfl|omega|exact lRV _
 ·rintro i hh tl LI TS hi ⟨A,sA,lA,rfl⟩ hlen K1 K2 hK1 hN1 hR1 hX1;have hi':i<ps.length:=by rw[List.length_map]at hi;exact hi
  rw[List.getElem_map];have sA': ∀m,qG (A::m) 0=true:=λ_=>sA
  have hS:L0++rwM (ps.take (i+1)) (-1) (-1)=(L0++rwM (ps.take i) (-1) (-1))++ [⟨ps.getD i default,-1,-1⟩]:=by
   unfold rwM;rw[List.take_add_one,zg hi',List.map_append,gdqA,zg hi',List.append_assoc];rfl
  have eG:ps[i]=ps.getD i default:=by rw[gdqA,zg hi'];rfl
  rw[eG];have hpm:ps.getD i default∈ps:=zI hi';obtain⟨p,hp'⟩:=Qt (ps.getD i default)
  rw[<-hp']at hS hpm ⊢;obtain⟨M,hM⟩:=Qt (L0++rwM (ps.take i) (-1) (-1))
  have hMF: ∀r∈M,PcF r.p:=λr hr=>by
   rw[hM]at hr;rcases List.mem_append.1 hr with hr|hr
   ·exact hLF r hr
   ·exact hpF _ (List.mem_of_mem_take (jh.1 hr).1)
  have hMn:M.length<=1000000000:=by
   rw[hM,lap,jD,List.length_take];rw[lap,jD]at hLn;omega
  rw[<-hM]at hS ⊢;simp only[ke,List.append_assoc,lca,lna];simp (disch:=omega) only[sA',pcC,tkC,go_sem];refine hK1 _ _ (h++ [.mem 1 26 [.str x.sec,strs x.sig,qm x.tok,qn x.col],.emp 1,.emp 2,.mem 1 45 [.osl (h.length+15) (vb+i) 7 0 M.length],.mem 1 135 [.fn (.func 69) [] [.op (h.length+3) 1 0]],O5,.mem 1 39 MC,P7,P8,(.mem (qo (some A)+1) 131 (pcC p)),O10,O11,O12,.emp 0,.emp 0,ze (vb+i) 133 (jv (bsW M))]) ?_ ?_ ?_
  ·simp[pcC,tkC]
  ·simp
  ·simp only[List.append_assoc,lca,lna];simp (disch:=omega) only[pcC,tkC,go_sem]
   repeat' first|with_reducible apply aiA|exact clz|fail
   refine kl (Dy (a:=h.length+3) (b:=h.length+15) (c:=h.length) (va:=1) (vb:=vb+i) (Z:= .mem 1 26 [.str x.sec,strs x.sig,qm x.tok,qn x.col]) ⟨by simp,by simp,by simp,oma,oma,oma⟩ M p (-1) (-1) (by simp only[go_sem]) (by simp only[go_sem]) (by simp only[go_sem]) (by rw[<-hX0];exact lX0) (hpF p hpm) hMn hMF) ?_;simp (disch:=omega) only[go_sem];refine hN1 _ _ (h++ [.mem 1 26 [.str x.sec,strs x.sig,qm x.tok,qn x.col],.emp 1,.emp 2,.mem 1 45 [.osl (h.length+15) (vb+(i+1)) 7 0 (M++ [(⟨p,-1,-1⟩:Rw)]).length],.mem 1 135 [.fn (.func 69) [] [.op (h.length+3) 1 0]],O5,.mem 1 39 MC,P7,P8,(.mem (qo (some A)+1) 131 (pcC p)),O10,O11,O12,.emp 0,.emp 0,ze (vb+(i+1)) 133 (jv (bsW (M++ [(⟨p,-1,-1⟩:Rw)])))]) ?_ ?_ ⟨_,rfl,?_,by rw[hS]⟩
   ·simp[pcC,tkC,Nat.add_assoc]
   ·simp
   ·intro n c hc;simp[pcC,tkC]at hc;rcases hc with rfl|rfl|rfl|rfl|rfl|rfl|rfl<;>rfl
 ·rintro hh ⟨A,sA,lA,rfl⟩;rw[List.length_map,List.take_length];obtain⟨L1,hL1⟩:=Qt (L0++rwM ps (-1) (-1))
  rw[<-hL1]
  by_cases hkl:k<0
  case neg=>
   have hke:k=0:=by omega
   obtain⟨b1,b2⟩:f=x.col.length∧t'=x.col.length:=⟨hf,ht'⟩
   have q4:((k:Int)=0)=True:=eqt oma;rw[hP7,hP8];simp (disch:=omega) only[q4,go_sem]
   repeat' first|with_reducible apply aiA|exact clz|fail
   rw[<-hP7,<-hP8];have e1:rwK x [] [] S (k+1)=L1:=by
    unfold rwK;rw[ine (by simp),hL1,hL0,hps,b1,hke];rfl
   have e2:nxT x [] (k+1)=t':=by unfold nxT;rw[ine (by simp),b2]
   refine hK _ _ ⟨k+1,vb+ps.length,P7,P8,A,O10,O11,O12⟩ ⟨by simp only;omega,λO hO=> ?_⟩ (by simp only;omega) ?_
   ·simp only[List.mem_cons,List.not_mem_nil,or_false]at hO;rcases hO with rfl|rfl|rfl|rfl|rfl|rfl
    ·exact hP7l
    ·exact hP8l
    ·exact⟨sA,lA⟩
    ·exact⟨s10,l10⟩
    ·exact⟨s11,l11⟩
    ·exact⟨s12,l12⟩
   ·simp only[e1,e2];refine Wk.temps ?_
    (simp only[go_sem,qg,qc,qb,qf];try exact tT)
  exact absurd hkl (nnz k)
 ·intro e hh hf;exact hf.elim
theorem NW(h:JN)(k:Nat)(hk:qG h k=true):ACalls Tryz.prog 71 [.el] h (.osl k (qo (qu k h)+1) 3 0 0) (qt k h (.mem (qo (qu k h)+1) 39 [])):=by
 refine bG Ab k (by simp) ?_;simp only[lco,lnl,Nat.reduceAdd,Nat.reduceSub,List.replicate,lca,lna];simp (disch:=omega) only[M8,go_sem]
 repeat' first|(with_reducible apply aiA)
 all_goals first
  |omega
  |contradiction
  |skip
 all_goals try rfl
 exact⟨h.length+1,2,3,0,0,39,[],_,⟨trivial,trivial⟩,rfl,rfl,oma,by simp only[go_sem],(λc hc=>by cases hc),hk,rfl,rfl⟩
theorem Oc(x:Co)(d:List Dc)(s:Int)(h:JN)(hz:yv x)(hp:kM SG h)(hg:jb h frmN frmC)(hd:d.length<=1000000)(ht: ∀o∈d,o.txt.length<=1000)(hN0:vaE x []=0->(rwA x [] d s.toNat).length<=1000000000):
  ACalls Tryz.prog 17 [.agg (coC x),.el,vI d,.int .i64 s] h (.tup [jl (esR x [] d s),.int .i64 (esE x [] d s)]) h:=by
 have hu:aM []:=⟨by simp,λi=>by simp;exact nzl _,λi j=>by simp;exact nzl _,λi j=>by simp;exact nzl _⟩
 have c1:=λl'=>(YD x [] (h++l') hz hu (hp.app l')).le (args:= [.agg (coC x),.el]) ⟨qi,WN,trivial⟩ (qi)
 have zu: ∀g l,valL g .len [qZ l]= .int .i64 l.length:=λ_ _=>rfl
 have zv: ∀g l,okL g .len [qZ l]=True:=λ_ _=>eqt trivial
 have zu1: ∀g l,valL g .len [strs l]= .int .i64 l.length:=λ_ _=>rfl
 have zv1: ∀g l,okL g .len [strs l]=True:=λ_ _=>eqt trivial
 have hE:esE x [] d s=(if vaE x []≠0 then vaE x [] else if s<0∨(x.sig.length:Int)<=s then 2 else if yo x [] d≠0 then yo x [] d else if 1024<(rwA x [] d s.toNat).length then 4 else 0):=rfl;unfold esR
 by_cases g:vaE x []=0
 case neg=>
  have k1:(vaE x []=0)=False:=eqf g;rw[ipo g]at hE;rw[hE,ine g];unfold coC at c1;refine acO wG ?_;simp (disch:=omega) only[fM,coC,go_sem]
  repeat' first|(refine cA (c1 _) flk ?_;simp (disch:=omega) only[k1,go_sem])|(apply qa;exact rvk;simp only[go_sem])
  exact VLe.tup ⟨qU,qi,trivial⟩
 rw[ine (by simpa using g)]at hE;have hN:=hN0 g;simp only[g]at c1;obtain⟨hca,hus,hcv⟩:=bD g;have ho:=j6 hca
 by_cases g2:s<0
 ·have k2:(s<0)=True:=eqt g2;rw[ipo (.inl g2)]at hE;rw[hE,ine (by decide)];unfold coC at c1;refine acO wG ?_;simp (disch:=omega) only[fM,coC,go_sem]
  repeat' first|(refine cA (c1 _) flk ?_;simp (disch:=omega) only[k2,go_sem])|(apply qa;exact rvk;simp only[go_sem])
  exact VLe.tup ⟨qU,qi,trivial⟩
 have k2:(s<0)=False:=eqf g2
 by_cases g3:(x.sig.length:Int)<=s
 ·have k3:((x.sig.length:Int)<=s)=True:=eqt g3;rw[ipo (.inr g3)]at hE;rw[hE,ine (by decide)];unfold coC at c1;refine acO wG ?_;simp (disch:=omega) only[fM,coC,go_sem]
  repeat' first|(refine cA (c1 _) flk ?_;simp (disch:=omega) only[k2,k3,zu1,zv1,go_sem])|(apply qa;exact rvk;simp only[go_sem])
  exact VLe.tup ⟨qU,qi,trivial⟩
 have k3:((x.sig.length:Int)<=s)=False:=eqf g3;rw[ine (λe=>e.elim g2 g3)]at hE;have c2:=λl'=>(Pl x [] d (h++l') hz hu (hp.app l') hg.app hca hd ht).le (args:= [.agg (coC x),.el,vI d]) ⟨qi,WN,qi,trivial⟩ (qi)
 unfold IJ at c2
 by_cases g4:yo x [] d=0
 case neg=>
  have k4:(yo x [] d=0)=False:=eqf g4;simp only[ine g4]at c2;rw[ipo g4]at hE;rw[hE,ine g4];unfold coC at c1 c2;refine acO wG ?_;simp (disch:=omega) only[fM,coC,go_sem]
  repeat' first|((first|refine cA (c1 _) ?_ ?_|refine cA (c2 _) ?_ ?_);exact flk;simp (disch:=omega) only[k2,k3,k4,zu1,zv1,go_sem])|(apply qa;exact rvk;simp only[go_sem])|with_reducible apply aiA|exact clz|fail
  exact VLe.tup ⟨qU,qi,trivial⟩
 rw[ine (by simpa using g4)]at hE;simp only[g4,if_true]at c2;rw[hE];unfold coC at c1 c2;refine acO wG ?_;simp (disch:=omega) only[fM,coC,go_sem]
 repeat' first|((first|refine cA (c1 _) ?_ ?_|refine cA (c2 _) ?_ ?_);exact flk;simp (disch:=omega) only[k2,k3,zu1,zv1,go_sem])|with_reducible apply aiA|exact clz|fail
 have hd0:d= []:=by
  cases d with
  |nil=>rfl
  |cons o r=>
   exfalso
   have:=g4
   unfold yo at this;split at this
   ·cases this
   ·have h0:=jr.1 this 0 (by simp);have h1:=(xJ h0).2.2.2.2.1;have h2:vk x [] ((o::r).getD 0 default)= -1:=rfl;omega
 subst hd0;have zi: ∀g l,valL g .len [qx l]= .int .i64 l.length:=λ_ _=>rfl
 have zj: ∀g l,okL g .len [qx l]=True:=λ_ _=>eqt trivial
 have ePL:(plG x [] [] ([]:List Dc).length).length=0:=rfl;refine qE (I2 (j:=h.length+2) (-1) (List.drop 1 (zQ [.int .i64 0] 1)) ?j1) (by exact flk) ?_
 case j1=>simp only[go_sem]
 simp (disch:=omega) only[zi,zj,go_sem];refine qr (T:=λ_:Unit=>qY 154 [(1,.el),(3,.int .i64 s),(4,.op h.length 1 0),(13,qx []),(56,.int .i64 0),(57,.int .i64 0)])
  (H:=λ_=>h++ [.mem 1 26 [.str x.sec,strs x.sig,qm x.tok,qn x.col],.emp 1,.emp 2,.emp 0,.emp 0,.emp 0,.emp 0,.emp 0,.emp 0,.emp 0,.emp 0,.emp 0,.emp 0,.emp 0,.emp 0,.emp 0])
  (inv:=λ_=>True) (m:=λ_=>0) () trivial (Wk.temps ?_) ?_
 ·(simp only[go_sem,qg,qc,qb,qf];try exact tT)
 rintro⟨⟩-K hK;have q1:((0:Int)<0)=False:=eqf oma;simp (disch:=omega) only[q1,go_sem];refine⟨_,_,Wk.ownNil (j:=h.length+3) (i:=0) (k:=h.length+15) (v:=1) (ty:=45) (cs:= [.nl]) (ve:=0) (sz:=7) ?m1 rfl ?m2,?_⟩
 case m1=>simp only[go_sem]
 case m2=>simp only[go_sem]
 simp (disch:=omega) only[List.set_cons_zero,go_sem];have bne5:(h.length+14 !=h.length+5)=true:=by simp
 have zc: ∀g l,valL g .len [qn l]= .int .i64 l.length:=λ_ _=>rfl
 have zd: ∀g l,okL g .len [qn l]=True:=λ_ _=>eqt trivial
 refine jX ?T ?H ?h1 ?h2
 case h1=>
  simp (disch:=omega) only[zc,zd,go_sem]
  repeat' first|(with_reducible apply aiA)|(refine qE (NW _ (h.length+14) (by simp only[go_sem])) (by exact flk) ?_;simp (disch:=omega) only[zc,zd,go_sem])
  all_goals first
   |omega
   |rfl
   |exact bne5
 case h2=>
 simp (disch:=omega) only[go_sem];obtain⟨S,hS⟩: ∃S:Nat,s=S:=⟨s.toNat,oma⟩
 subst hS;rw[itn]at hN ⊢;have hSl:S<x.sig.length:=by omega
 obtain⟨MC,hMC⟩:=Qt ( [AV.int .i64 x.col.length,.int .i64 x.col.length,.nl])
 rw[<-hMC];obtain⟨O5,hO5⟩:=Qt (AObj.mem 1 39 (AV.int .i64 x.col.length:: .int .i64 x.col.length:: .nl::List.drop 3 (zQ [.int .i64 0,.int .i64 0,.nl] 1)))
 rw[<-hO5];obtain⟨X0,hX0⟩:=Qt (AObj.mem 1 26 [.str x.sec,strs x.sig,qm x.tok,qn x.col])
 have lX0: ∀n,lowO n X0:=by
  intro n;rw[hX0];intro c hc;simp at hc;rcases hc with rfl|rfl|rfl|rfl<;>rfl
 refine qr (T:=λi:EsS=>qY 154 [(1,.el),(3,.int .i64 (S:Int)),(4,.op h.length 1 0),(13,qx []),(16,.op (h.length+3) 1 0),(17,.op (h.length+4) 1 0),(18,.int .i64 (nxT x [] i.k:Int)),(78,.osl (h.length+14) 2 3 0 1),(79,.int .i64 1),(80,.int .i64 i.k)])
  (H:=λi=>h++ [.mem 1 26 [.str x.sec,strs x.sig,qm x.tok,qn x.col],.emp 1,.emp 2,.mem 1 45 [.osl (h.length+15) i.vb 7 0 (rwK x [] [] S i.k).length],.mem 1 135 [.fn (.func 69) [] [.op (h.length+3) 1 0]],O5,.emp 0,i.O7,i.O8,i.O9,i.O10,i.O11,i.O12,.emp 0,.mem 2 39 MC,ze i.vb 133 (jv (bsW (rwK x [] [] S i.k)))])
  (inv:=λi=>i.k<=1∧ ∀O∈ [i.O7,i.O8,i.O9,i.O10,i.O11,i.O12],qG [O] 0=true∧ ∀n,lowO n O) (m:=λi=>1-i.k) ⟨0,0,.emp 0,.emp 0,.emp 0,.emp 0,.emp 0,.emp 0⟩ ⟨nzl _,λO hO=>by
   simp at hO;subst hO;exact⟨rfl,λ_=>trivial⟩⟩ (Wk.temps ?_) ?_
 ·(simp only[go_sem,qg,qc,qb,qf];try (repeat' first|(with_reducible apply aiA)|(apply qe;omega)|(apply qd;rfl)|exact qi))
  done
 rintro⟨k,vb,O7,O8,O9,O10,O11,O12⟩ ⟨i1,i2⟩ K hK;simp only at i1 i2 hK;obtain⟨s7,l7⟩:=i2 O7 (by simp);obtain⟨s8,l8⟩:=i2 O8 (by simp);obtain⟨s9,l9⟩:=i2 O9 (by simp);obtain⟨s10,l10⟩:=i2 O10 (by simp);obtain⟨s11,l11⟩:=i2 O11 (by simp);obtain⟨s12,l12⟩:=i2 O12 (by simp);have s7': ∀m,qG (O7::m) 0=true:=λ_=>s7
 have s8': ∀m,qG (O8::m) 0=true:=λ_=>s8
 by_cases hk:k<=0
 case neg=>
  have q1:((k:Int)<(1:Int))=False:=eqf oma;have eR:rwK x [] [] S k=rwA x [] [] S:=by unfold rwK;rw[lnl,ine hk]
  rw[eR]
  by_cases g5:1024<(rwA x [] [] S).length
  ·have q5:((1024:Int)<(rwA x [] [] S).length)=True:=eqt oma;simp only[ipo g5];simp (disch:=omega) only[q1,q5,go_sem]
   repeat' first|(apply qa;exact rvk;simp only[go_sem])|with_reducible apply aiA|exact clz|fail
   exact VLe.tup ⟨qU,qi,trivial⟩
  ·have q5:((1024:Int)<(rwA x [] [] S).length)=False:=eqf oma;simp only[ine g5];simp (disch:=omega) only[q1,q5,go_sem]
   repeat' first|(apply qa;exact rvk;simp only[go_sem])|with_reducible apply aiA|exact clz|fail
   exact VLe.tup ⟨cH (jU _).symm,qi,trivial⟩
 have q1:((k:Int)<(1:Int))=True:=eqt oma;have q2:(0<=(k:Int))=True:=eqt oma;have hk0:k=0:=by omega
 have hMl:MC.length=3:=by rw[hMC];rfl
 have q3:(k*3+3<=MC.length)=True:=eqt oma;have eR:rwK x [] [] S k=rwL x [] [] S k:=by unfold rwK;rw[lnl,ipo hk]
 have eN:nxT x [] k=zf [] k:=by unfold nxT;rw[lnl,ipo hk]
 rw[eR,eN];obtain⟨f,hf⟩:=Qt x.col.length
 obtain⟨t',ht'⟩:=Qt x.col.length
 obtain⟨RV,hRV⟩:=Qt AV.nl
 have eM:List.take 3 (List.drop (k*3) MC)= [.int .i64 (f:Int),.int .i64 (t':Int),RV]:=by rw[hk0,hMC,hf,ht',hRV];rfl
 have a5:zf [] k<=f:=by rw[hk0];exact nzl _
 have a6:f<=x.col.length:=by omega
 have lRV: ∀n,qR n RV=true:=λn=>by rw[hRV];rfl
 have c3:=λh=>Lp x (zf [] k) f S h
 have hit:=itS x S (zf [] k) f hz ho hSl a6 a5;have hpF:=vV ho hSl (f:=zf [] k) (d:=f-zf [] k) oma;obtain⟨ps,hps⟩:=Qt (spk x S (zf [] k) (f-zf [] k))
 have hxl:(spX x S (zf [] k) (f-zf [] k))=ps.map λp=> [.agg (pcC p)]:=by unfold spX;rw[hps]
 rw[hxl]at hit;rw[<-hps]at hpF;unfold coC at c3 hit;simp (disch:=omega) only[q1,q2,q3,eM,s7',s8',go_sem]
 repeat' first|(refine cA (c3 _) flk ?_;simp (disch:=omega) only[go_sem])|with_reducible apply aiA|exact clz|fail
 obtain⟨L0,hL0⟩:=Qt (rwL x [] [] S k)
 have hLF: ∀r∈L0,PcF r.p:=by rw[hL0];exact gS ho hus hSl (λi hi=>absurd hi (by simp)) hk
 have hLn:(L0++rwM ps (-1) (-1)).length<=1000000000:=by
  refine Nat.le_trans ?_ hN;rw[hL0,hps,hf,hk0];exact nlr _
 rw[<-hL0];obtain⟨P7,hP7⟩:=Qt (AObj.mem (qo (some O7)+1) 3 [.int .i64 (k:Int)])
 obtain⟨P8,hP8⟩:=Qt (AObj.mem (qo (some O8)+1) 39 [.int .i64 (f:Int),.int .i64 (t':Int),RV])
 have hP7l:qG [P7] 0=true∧ ∀n,lowO n P7:=by
  rw[hP7];refine⟨rfl,λn c hc=> ?_⟩;rw[List.mem_singleton]at hc;subst hc;rfl
 have hP8l:qG [P8] 0=true∧ ∀n,lowO n P8:=by
  rw[hP8];refine⟨rfl,λn c hc=> ?_⟩;simp only[List.mem_cons,List.not_mem_nil,or_false]at hc;rcases hc with rfl|rfl|rfl
  ·rfl
  ·rfl
  ·exact lRV n
 have cP7: ∀m,cellsOf (P7::m) 0 (qo (some O7)+1)=some [.int .i64 (k:Int)]:=λm=>by rw[hP7];simp only[go_sem]
 rw[<-hP7,<-hP8];have lP: ∀L:List Rw,∀v n,lowO n (ze v 133 (jv (bsW L))):=λL v n=>jd (yM _ n)
 have hLow: ∀(L M:List Rw) (v w:Nat) O A,(∀n,lowO n A)->LowI (h++ [.mem 1 26 [.str x.sec,strs x.sig,qm x.tok,qn x.col],.emp 1,.emp 2,.mem 1 45 [.osl (h.length+15) w 7 0 M.length],.mem 1 135 [.fn (.func 69) [] [.op (h.length+3) 1 0]],O5,.emp 0,P7,P8,O,O10,O11,O12,.emp 0,.mem 2 39 MC,ze w 133 (jv (bsW M))])
   (h++ [.mem 1 26 [.str x.sec,strs x.sig,qm x.tok,qn x.col],.emp 1,.emp 2,.mem 1 45 [.osl (h.length+15) v 7 0 L.length],.mem 1 135 [.fn (.func 69) [] [.op (h.length+3) 1 0]],O5,.emp 0,P7,P8,A,O10,O11,O12,.emp 0,.mem 2 39 MC,ze v 133 (jv (bsW L))]):=λL M v w O A lA=>by
  refine⟨by simp,λo ho=> ?_⟩;rcases List.mem_append.1 ho with h1|h1
  ·exact .inl (List.mem_append_left _ h1)
  ·simp only[List.mem_cons,List.not_mem_nil,or_false]at h1;rcases h1 with rfl|rfl|rfl|rfl|rfl|rfl|rfl|rfl|rfl|rfl|rfl|rfl|rfl|rfl|rfl|rfl
   ·left;simp
   ·left;simp
   ·left;simp
   ·right;refine⟨λc hc=> ?_,λc hc=> ?_⟩<;>
    ·rw[List.mem_singleton]at hc;subst hc;simp[qR]
     try omega
   ·left;simp
   ·left;simp
   ·left;simp
   ·left;simp
   ·left;simp
   ·right;exact⟨lA _,lA _⟩
   ·left;simp
   ·left;simp
   ·left;simp
   ·left;simp
   ·left;simp
   ·right;exact⟨lP _ _ _,lP _ _ _⟩
 refine zn hit (λa ha=> ?_)
  (S:=λi hh=> ∃A,qG [A] 0=true∧(∀n,lowO n A)∧hh=h++ [.mem 1 26 [.str x.sec,strs x.sig,qm x.tok,qn x.col],.emp 1,.emp 2,.mem 1 45 [.osl (h.length+15) (vb+i) 7 0 (L0++rwM (ps.take i) (-1) (-1)).length],.mem 1 135 [.fn (.func 69) [] [.op (h.length+3) 1 0]],O5,.emp 0,P7,P8,A,O10,O11,O12,.emp 0,.mem 2 39 MC,ze (vb+i) 133 (jv (bsW (L0++rwM (ps.take i) (-1) (-1))))]) (E:=λ_ _=>False) ?_ ?_ ?_ ?_ ?_ ?_ ?_
 ·obtain⟨c,_,rfl⟩:=List.mem_map.1 ha;rfl
 ·rintro i hh ⟨A,_,lA,rfl⟩;exact hLow _ _ _ _ _ _ lA
 ·intro s hh hf;exact hf.elim
 ·exact⟨O9,s9,l9,by simp[rwM]⟩
 ·simp[qR,qR.lowVs]
  repeat' apply aiA
  all_goals first|rfl|omega|exact lRV _
 ·rintro i hh tl LI TS hi ⟨A,sA,lA,rfl⟩ hlen K1 K2 hK1 hN1 hR1 hX1;have hi':i<ps.length:=by rw[List.length_map]at hi;exact hi
  rw[List.getElem_map];have sA': ∀m,qG (A::m) 0=true:=λ_=>sA
  have hS:L0++rwM (ps.take (i+1)) (-1) (-1)=(L0++rwM (ps.take i) (-1) (-1))++ [⟨ps.getD i default,-1,-1⟩]:=by
   unfold rwM;rw[List.take_add_one,zg hi',List.map_append,gdqA,zg hi',List.append_assoc];rfl
  have eG:ps[i]=ps.getD i default:=by rw[gdqA,zg hi'];rfl
  rw[eG];have hpm:ps.getD i default∈ps:=zI hi';obtain⟨p,hp'⟩:=Qt (ps.getD i default)
  rw[<-hp']at hS hpm ⊢;obtain⟨M,hM⟩:=Qt (L0++rwM (ps.take i) (-1) (-1))
  have hMF: ∀r∈M,PcF r.p:=λr hr=>by
   rw[hM]at hr;rcases List.mem_append.1 hr with hr|hr
   ·exact hLF r hr
   ·exact hpF _ (List.mem_of_mem_take (jh.1 hr).1)
  have hMn:M.length<=1000000000:=by
   rw[hM,lap,jD,List.length_take];rw[lap,jD]at hLn;omega
  rw[<-hM]at hS ⊢;simp only[ke,List.append_assoc,lca,lna];simp (disch:=omega) only[sA',pcC,tkC,go_sem];refine hK1 _ _ (h++ [.mem 1 26 [.str x.sec,strs x.sig,qm x.tok,qn x.col],.emp 1,.emp 2,.mem 1 45 [.osl (h.length+15) (vb+i) 7 0 M.length],.mem 1 135 [.fn (.func 69) [] [.op (h.length+3) 1 0]],O5,.emp 0,P7,P8,(.mem (qo (some A)+1) 131 (pcC p)),O10,O11,O12,.emp 0,.mem 2 39 MC,ze (vb+i) 133 (jv (bsW M))]) ?_ ?_ ?_
  ·simp[pcC,tkC]
  ·simp
  ·simp only[List.append_assoc,lca,lna];simp (disch:=omega) only[pcC,tkC,go_sem]
   repeat' first|with_reducible apply aiA|exact clz|fail
   refine kl (Dy (a:=h.length+3) (b:=h.length+15) (c:=h.length) (va:=1) (vb:=vb+i) (Z:= .mem 1 26 [.str x.sec,strs x.sig,qm x.tok,qn x.col]) ⟨by simp,by simp,by simp,oma,oma,oma⟩ M p (-1) (-1) (by simp only[go_sem]) (by simp only[go_sem]) (by simp only[go_sem]) (by rw[<-hX0];exact lX0) (hpF p hpm) hMn hMF) ?_;simp (disch:=omega) only[go_sem];refine hN1 _ _ (h++ [.mem 1 26 [.str x.sec,strs x.sig,qm x.tok,qn x.col],.emp 1,.emp 2,.mem 1 45 [.osl (h.length+15) (vb+(i+1)) 7 0 (M++ [(⟨p,-1,-1⟩:Rw)]).length],.mem 1 135 [.fn (.func 69) [] [.op (h.length+3) 1 0]],O5,.emp 0,P7,P8,(.mem (qo (some A)+1) 131 (pcC p)),O10,O11,O12,.emp 0,.mem 2 39 MC,ze (vb+(i+1)) 133 (jv (bsW (M++ [(⟨p,-1,-1⟩:Rw)])))]) ?_ ?_ ⟨_,rfl,?_,by rw[hS]⟩
   ·simp[pcC,tkC,Nat.add_assoc]
   ·simp
   ·intro n c hc;simp[pcC,tkC]at hc;rcases hc with rfl|rfl|rfl|rfl|rfl|rfl|rfl<;>rfl
 ·rintro hh ⟨A,sA,lA,rfl⟩;rw[List.length_map,List.take_length];obtain⟨L1,hL1⟩:=Qt (L0++rwM ps (-1) (-1))
  rw[<-hL1]
  by_cases hkl:k<0
  case neg=>
   have hke:k=0:=by omega
   obtain⟨b1,b2⟩:f=x.col.length∧t'=x.col.length:=⟨hf,ht'⟩
   have q4:((k:Int)=0)=True:=eqt oma;rw[hP7,hP8];simp (disch:=omega) only[q4,go_sem]
   repeat' first|with_reducible apply aiA|exact clz|fail
   rw[<-hP7,<-hP8];have e1:rwK x [] [] S (k+1)=L1:=by
    unfold rwK;rw[ine (by simp),hL1,hL0,hps,b1,hke];rfl
   have e2:nxT x [] (k+1)=t':=by unfold nxT;rw[ine (by simp),b2]
   refine hK _ _ ⟨k+1,vb+ps.length,P7,P8,A,O10,O11,O12⟩ ⟨by simp only;omega,λO hO=> ?_⟩ (by simp only;omega) ?_
   ·simp only[List.mem_cons,List.not_mem_nil,or_false]at hO;rcases hO with rfl|rfl|rfl|rfl|rfl|rfl
    ·exact hP7l
    ·exact hP8l
    ·exact⟨sA,lA⟩
    ·exact⟨s10,l10⟩
    ·exact⟨s11,l11⟩
    ·exact⟨s12,l12⟩
   ·simp only[e1,e2];refine Wk.temps ?_
    (simp only[go_sem,qg,qc,qb,qf];try exact tT)
  exact absurd hkl (nnz k)
 ·intro e hh hf;exact hf.elim
theorem RA(x:Co)(l:List Un)(d:List Dc)(s:Int)(h:JN)(hz:yv x)(hu:aM l)(hp:kM SG h)(hg:jb h frmN frmC)(hd:d.length<=1000000)(ht: ∀o∈d,o.txt.length<=1000)(hN0:vaE x l=0->(rwA x l d s.toNat).length<=1000000000):
  ACalls Tryz.prog 17 [.agg (coC x),qZ l,vI d,.int .i64 s] h (.tup [jl (esR x l d s),.int .i64 (esE x l d s)]) h:=by
 cases l with
 |nil=>exact ACalls.sl0 (pre:= [.agg (coC x)]) (post:= [vI d,.int .i64 s]) (Ob x d s h hz hp hg hd ht hN0) (Oc x d s h hz hp hg hd ht hN0)
 |cons u r=>exact SN x (u::r) d s h hz hu hp hg (List.cons_ne_nil _ _) hd ht hN0
end RC
end
section
open Go Go.Proofs AF
end
section
open Go Go.Proofs AF
end
section
open Go Go.Proofs AF HY LN
namespace RC
theorem JD{x:Co}{l:List Un}{d:List Dc}{s:Nat}(h:wt x l d s){i:Nat}(hi:i<(rwA x l d s).length){w:Wd}(hw:w=(bsW (rwA x l d s)).getD i default):
  (0<=w.col∧w.col<x.col.length)∧(w.text≠ []∧w.text.length<=64)∧(-1<=w.dec∧w.dec<d.length)∧fnU l w.col=w.unit∧(w.unit<0->w.dec= -1)∧(i≠0->((bsW (rwA x l d s)).getD (i-1) default).col<=w.col∧((bsW (rwA x l d s)).getD (i-1) default).text.length<=64):=by
 subst hw;obtain⟨g1,g2⟩:=Qi h;have g:=g1 _ (zI (a:=default) hi);rw[fX hi,WU hi,DZ hi,rx hi];refine⟨g.c,g.tx,g.d,g.u,λe=>(g.n e).2,λh0=> ?_⟩;have hj:i-1<(rwA x l d s).length:=by omega
 rw[WU hj,fX hj];refine⟨?_,(g1 _ (zI (a:=default) hj)).tx.2⟩
 have:=List.pairwise_iff_getElem.1 g2 (i-1) i hj hi oma
 rw[gdqA,zg hj,gdqA,zg hi];exact this
theorem CE{x:Co}(hc:x.col.length<=1000000)(hs:x.sig.length<=1000000):aM (yt x):=by
 have hl:(yt x).length<=x.col.length:=by
  have h1:=cw (s:=0) (v8 x) (d:= []) (by simp) (yt x).length (nlr _);have h2:=vX (v8 x) (nlr (yt x).length);omega
 have key: ∀i,WL ((yt x).getD i default).rds:=λi=>by
  by_cases hi:i<(rnL x).length
  ·rw[an hi];obtain⟨h1,h2,_⟩:=Qa hi;exact uY x (rnL x)[i].1 ((rnL x)[i].2-(rnL x)[i].1) oma x.sig.length oma
  ·rw[gdqA,List.getElem?_eq_none (by rw[yL];omega)];have e0:(none.getD default:Un).rds= []:=rfl;exact⟨nzl _,λj=>by rw[e0,List.getD_nil];decide,λj=>by rw[e0,List.getD_nil];decide⟩
 exact⟨oma,λi=>(key i).1,λi j=>(key i).2 j,λi j=>(key i).3 j⟩
def txE(x:Co)(i:Int):Int:=if coE x≠0 then 1 else if i<0∨(x.sig.length:Int)<=i then 2 else 0
def txR(x:Co)(i:Int):List Str:=if txE x i=0 then fQ (x.tok.getD i.toNat []) else []
theorem NS(x:Co)(i:Int)(h:JN)(hz:yv x)(hp:kM SG h):ACalls Tryz.prog 13 [.agg (coC x),.int .i64 i] h (.tup [strs (txR x i),.int .i64 (txE x i)]) h:=by
 have c1:=λl'=>coP x (h++l') hz (hp.app l')
 have hE:txE x i=if coE x≠0 then 1 else if i<0∨(x.sig.length:Int)<=i then 2 else 0:=rfl
 unfold txR
 by_cases g:coE x=0
 case neg=>
  have k1:(coE x=0)=False:=eqf g;rw[ipo g]at hE;rw[hE,ine (by decide)];obtain⟨e,he⟩:=Qt (coE x)
  rw[<-he]at c1 k1;unfold coC at c1;refine acO JY ?_;simp (disch:=omega) only[D3,coC,go_sem]
  repeat' first|(refine cA (c1 _) flk ?_;simp (disch:=omega) only[k1,go_sem])|(apply qa;exact rvk;simp only[go_sem])
  exact VLe.tup ⟨qU,qi,trivial⟩
 rw[ine (λhc=>hc g)]at hE;simp only[g]at c1;have ho:=j6 g;unfold coC at c1;have zg1: ∀g,valL g .len [strs x.sig]= .int .i64 x.sig.length:=λ_=>rfl
 have zg2: ∀g,okL g .len [strs x.sig]=True:=λ_=>eqt trivial
 by_cases g1:i<0
 ·have k1:(i<0)=True:=eqt g1;rw[ipo (.inl g1)]at hE;rw[hE,ine (by decide)];refine acO JY ?_;simp (disch:=omega) only[D3,coC,go_sem]
  repeat' first|(refine cA (c1 _) flk ?_;simp (disch:=omega) only[k1,zg1,zg2,go_sem])|(apply qa;exact rvk;simp only[go_sem])
  exact VLe.tup ⟨qU,qi,trivial⟩
 have k1:(i<0)=False:=eqf g1
 by_cases g2:(x.sig.length:Int)<=i
 ·have k2:((x.sig.length:Int)<=i)=True:=eqt g2;rw[ipo (.inr g2)]at hE;rw[hE,ine (by decide)];refine acO JY ?_;simp (disch:=omega) only[D3,coC,go_sem]
  repeat' first|(refine cA (c1 _) flk ?_;simp (disch:=omega) only[k1,k2,zg1,zg2,go_sem])|(apply qa;exact rvk;simp only[go_sem])
  exact VLe.tup ⟨qU,qi,trivial⟩
 have k2:((x.sig.length:Int)<=i)=False:=eqf g2;rw[ine (λe=>e.elim g1 g2)]at hE;rw[hE,ipo rfl];obtain⟨s,rfl⟩: ∃s:Nat,i=s:=⟨i.toNat,oma⟩
 rw[itn];have htl:=hz.tl s;have c2:=λh=>RX (x.tok.getD s []) h (by have:=ho.tl s (by rw[ho.tn];omega);omega)
 have zt:qm x.tok= .sl x.tok.length λi=> [zR (x.tok.getD i [])]:=rfl
 have k3:((s:Int)<x.tok.length)=True:=eqt (by rw[ho.tn];omega);have k4:(0<=(s:Int))=True:=eqt oma;refine acO JY ?_;simp (disch:=omega) only[D3,coC,go_sem]
 repeat' first|((first|refine cA (c1 _) ?_ ?_|refine cA (c2 _) ?_ ?_);exact flk;simp (disch:=omega) only[k1,k2,k3,k4,zg1,zg2,zt,go_sem])|exact tF|with_reducible apply aiA|exact clz|fail
theorem wt.va{x:Co}{l:List Un}{d:List Dc}{s:Nat}(h:wt x l d s):vaE x l=0:=by
 unfold vaE;rw[ine (λhc=>hc h.ca),ine];unfold rgB;rw[h.us,h.cv];simp
def yU(L:List Dc):JT:=L.flatMap dcC
theorem sy(u:Dc):(dcC u).length=4:=rfl
theorem i7(L:List Dc):(yU L).length=L.length*4:=by
 unfold yU
 induction L with
 |nil=>rfl
 |cons a L ih=>rw[List.flatMap_cons,lap,ih,lco,sy];omega
theorem Jw(A B:List Dc):yU (A++B)=yU A++yU B:=by simp[yU]
theorem Jy(a:Dc):yU [a]=dcC a:=by simp[yU]
theorem sC(L:List Dc): ∀i,(yU L).drop (i*4)=yU (L.drop i):=by
 induction L with
 |nil=>intro i;simp[yU]
 |cons a L ih=>
  intro i;cases i with
  |zero=>simp
  |succ i=>
   rw[show yU (a::L)=dcC a++yU L from rfl,show (a::L).drop (i+1)=L.drop i from rfl,<-ih i];rw[show (i+1)*4=(dcC a).length+i*4 by rw[sy];omega,List.drop_append,List.drop_eq_nil_of_le oma,lna,Nat.add_sub_cancel_left]
theorem Jx{L:List Dc}{i:Nat}(hi:i<L.length):((yU L).drop (i*4)).take 4=dcC (L.getD i default):=by
 rw[sC,List.drop_eq_getElem_cons hi,gdqA,zg hi];rfl
end RC
end
section
open Go Go.Proofs AF
def KB:List Nat:= [17]
def Re:C:=
 (pk [MC 0 (.bool false)] (pk [MC 1 (.fn (Fn.func 61) [] [])] (pk [⟨some 11,none,.bslc 0 1 2 9 [.str []] [(0,1),(1,1)],[.c (.str [65]),.c (.str [66])]⟩,MV 12 1,OC 13 .callv 12
 (.str [97]),MV 14 1,OC 15 .callv 14 (.str [99]),⟨some 16,none,.bslc 1 6 2 119 [.str [],.str [],.str [],i6 0,i6 0,.str []] [(0,6),(6,6)],[.t 13,.t 15]⟩,MV 17 1,OC 18 .callv 17
 (.str [98]),MV 19 1,OC 20 .callv 19 (.str [99]),⟨some 21,none,.bslc 2 6 2 119 [.str [],.str [],.str [],i6 0,i6 0,.str []] [(0,6),(6,6)],[.t 18,.t 20]⟩,⟨some 22,none,.bslc 3 1 2
 115 [.nl] [(0,1),(1,1)],[.t 16,.t 21]⟩,⟨some 23,none,.bslc 4 1 2 3 [i6 0] [(0,1),(1,1)],[.c (i6 0),.c (i6 0)]⟩,⟨some 24,none,.bslc 5 1 2 3 [i6 0] [(0,1),(1,1)],[.c (i6 1),.c
 (i6 1)]⟩,⟨some 25,none,.bslc 6 1 2 51 [.nl] [(0,1),(1,1)],[.t 23,.t 24]⟩,⟨some 26,none,.build [.str [],.nl,.nl,.nl] [(0,1),(1,1),(2,1),(3,1)],[.c (.str [73]),.t 11,.t 22,.t
 25]⟩,⟨some 2,none,.alloc 7 26 [.str [],.nl,.nl,.nl],[]⟩,ST 4 2 26] ((C.wk.seq (rv [O1 28 (.load (some 4)) 2,O1 29 (.call 12 true) 28,MV 27 29,O1 30 (.ext 0) 27,O1 31 (.ext 1)
 27,MV 3 30,MV 4 31])).seq (pk [O1 33 (.load (some 4)) 2,MV 34 3,ON 35 (.call 17 false) [.t 33,.t 34,.c .nl,.c (i6 1)],MV 32 35,O1 36 (.ext 0) 32,O1 37 (.ext 1) 32,MV 5 36,MV 6
 37] (pk [O1 39 (.load (some 4)) 2,MV 40 3,MV 41 5,ON 42 (.call 21 true) [.t 39,.t 40,.t 41,.c (i6 0)],MV 38 42,O1 43 (.ext 0) 38,O1 44 (.ext 1) 38,MV 7 43,MV 8 44] (pk [O1 46
 (.load (some 4)) 2,MV 47 3,MV 48 5,ON 49 (.call 21 true) [.t 46,.t 47,.t 48,.c (i6 1)],MV 45 49,O1 50 (.ext 0) 45,O1 51 (.ext 1) 45,MV 9 50,MV 10 51] (p9 [MV 52 4,oT 53 .eql 52
 0,MV 54 53,MG 55 54 true 6,PC 56 54 true (.bin .eql) 55 (i6 0),PF 57 54 56,MV 58 57,MG 59 58 true 8,PC 60 58 true (.bin .eql) 59 (i6 0),PF 61 58 60,MV 62 61,MG 63 62 true 10,PC
 64 62 true (.bin .eql) 63 (i6 0),PF 65 62 64,MV 66 65,MG 67 66 true 5,P1 68 66 true (.call 19 true) 67,⟨some 69,some (66,true),.bslc 8 1 2 9 [.str []] [(0,1),(1,1)],[.c (.str
 [98]),.c (.str [99])]⟩,P2 70 66 true (.call 18 true) 68 69,PF 71 66 70,MV 72 71,MG 73 72 true 7,⟨some 74,some (72,true),.bslc 9 1 1 3 [i6 0] [(0,1)],[.c (i6 1)]⟩,P2 75 72 true
 (.call 30 true) 73 74,PF 76 72 75,MV 77 76,MG 78 77 true 9,⟨some 79,some (77,true),.bslc 10 1 2 3 [i6 0] [(0,1),(1,1)],[.c (i6 0),.c (i6 1)]⟩,P2 80 77 true (.call 30 true) 78
 79,PF 81 77 80,MV 0 81]))))))))
theorem Og:qK Tryz.prog 11 82 11 [RV.tmp 0] Re:=fi Tryz.f11 [11,16,21,22,23,24,25,2,69,74,79] KB [3]
end
section
open Go Go.Proofs AF
def KC:List Nat:= []
def Rm:C:=
 (pk [⟨some 2,none,.alloc 0 119 [.str [],.str [],.str [],i6 0,i6 0,.str []],[]⟩] (p9 [MV 3 0,MV 4 0,⟨some 5,none,.build [.str [],.str [],.str [],i6 0,i6 0,.str []]
 [(0,1),(1,1)],[.t 3,.t 4]⟩,ST 6 2 5]))
theorem Ot:qK Tryz.prog 61 6 1 [RV.cell 2 (some 6)] Rm:=fi Tryz.f61 [2] KC []
end
section
open Go Go.Proofs AF HY LN
namespace RC
theorem _root_.AF.Wk.freezeX(ks:List Nat){t:JT}{h:JN}{j v:Nat}{ty:TypeId}{cs cs':JT}(hs:ky ks h=true)(hj:qu j h=some (.mem v ty cs))(hn:j∉ks)(hc:wO (cs.map (frz (λk=>ks.contains k) h 8)) cs'):
  Wk t h (t.map (frz (λk=>ks.contains k) h 8)) (qt j (xa ks h) (.mem v ty cs')):=by
 have h1:=Wk.freezeC ks (t:=t) hs hj hn;have hl:j<(xa ks h).length:=zh ((b7 hn).trans hj);have h2:=Wk.cells (t:=t.map (frz (λk=>ks.contains k) h 8)) (j:=j) (jf (o:= .mem v ty (cs.map (frz (λk=>ks.contains k) h 8))) hl) hc;rw[kv]at h2;exact Wk.trans h1 h2
end RC
end
section
open Go Go.Proofs AF
def lC:List Nat:= []
def Rh:C:=
 (pk [O1 3 (.box 0 26) 0,ON 6 (.nilo 1 4 65) []] (pk [ON 7 (.nilo 2 4 65) []] ((pk [MV 14 1,O1 15 .len 14,oF 16 0] (C.block 0 (pk [BI 17 .lss 16 15] ((p8 17 0).seq ((C.block 1
 (pk [O2 18 (.idxA 3) 14 16,O1 19 (.load (some 3)) 18,⟨some 9,none,.alloc 3 39 [i6 0,i6 0,.nl],[]⟩,ST 3 9 19] (pk [⟨some 20,none,.build [i6 0,.str [],i6 0,.str []] [(0,1)],[.c
 (i6 3)]⟩,⟨some 10,none,.alloc 4 65 [i6 0,.str [],i6 0,.str []],[]⟩,ST 4 10 20] ((pk [oE 21 0 9,LD 22 21,MV 11 22] (C.block 2 ((pk [MV 23 11,oE 24 1 9,LD 25 24,BI 26 .lss 23 25]
 (p8 26 2)).seq ((C.block 3 (pk [oE 29 3 3,LD 30 29,MV 31 11,O2 32 (.idxA 1) 30 31,LD 33 32,O1 34 .len 33,oF 35 0] (C.block 4 (pk [BI 36 .lss 35 34] ((p8 36 4).seq ((C.block 5
 (pk [MV 37 35,O2 38 (.idxA 1) 33 35,LD 39 38,MV 12 37,MV 13 39] (C.block 6 (pk [MV 41 13,oT 42 .lss 41 0,MV 40 42] (C.cond (.t 40) C.skip (pk [MV 44 12,MV 45 2,BI 46 .eql 44
 45,MV 43 46] (C.cond (.t 43) (rv [oE 47 1 3,LD 48 47,MV 49 12,O2 50 (.idxA 1) 48 49,LD 51 50,MV 52 13,⟨some 53,none,.build [i6 0,.str [],i6 0,.str []] [(0,1),(1,1),(2,1)],[.c
 (i6 1),.t 51,.t 52]⟩,ST 4 10 53]) (pk [oE 55 1 10,LD 56 55,BC 57 .eql 56 (.str []),MV 54 57] (p7 54 (rv [oE 58 1 3,LD 59 58,MV 60 12,O2 61 (.idxA 1) 59 60,LD 62 61,MV 63 13,oE
 64 1 10,ST 1 64 62,oE 65 2 10,ST 1 65 63])))))))))).seq (rv [oT 66 .add 35 1,MV 35 66])))).loop))).seq (sm 27 11))).loop)).seq (rv [MV 67 7,O1 68 (.load (some 4)) 10,⟨some
 69,none,.bslc 5 4 1 65 [i6 0,.str [],i6 0,.str []] [(0,4)],[.t 68]⟩,O2 70 (.app 6 4 65 48) 67 69,MV 7 70]))))).seq (rv [oT 71 .add 16 1,MV 16 71])))).loop)).seq (p9 [MV 72 7,MV
 6 72]))))
theorem Oi:qK Tryz.prog 16 73 7 [RV.tmp 6] Rh:=fi Tryz.f16 [3,6,7,9,10,69,70] lC []
def Rf:C:=
 (pk [O1 2 (.box 0 39) 0,MC 3 (.bool false)] (p9 [oE 4 0 2,LD 5 4,oT 6 .lss 5 0,MV 7 6,tv 8 7 1 2,tE 9 7 8,tv 10 7 3 1,tE 11 7 10,oX 12 7 .len 11,pb 13 7 (.bin .gtr) 9 12,PT 14 7
 13,MV 3 14]))
theorem Oh:qK Tryz.prog 15 15 1 [RV.tmp 3] Rf:=fi Tryz.f15 [2] lC []
end
section
open Go Go.Proofs AF HY LN
namespace RC
theorem Qu{v n:Nat}{L:List Dc}{ty:TypeId}{fz:Nat->Bool}{h:JN}{d:Nat}(hn:n=L.length):VLe (fP (some (ze v ty (yU L))) v 4 0 n (rei fz h (d+1))) (vI L):=by
 subst hn;unfold ze;split
 ·rename_i e
  have:L= []:=by
   cases L with
   |nil=>rfl
   |cons a r=>exact absurd e (by simp[yU,dcC])
  subst this;rw[slOf_emp,ipo rfl];exact qU
 ·rw[slOf_mem,ipo ⟨rfl,by rw[i7];omega⟩];refine VLe.sl_eq rfl (λi hi=> ?_);simp only[Nat.zero_add];rw[Jx hi];rfl
def foT(x:Co)(l:List Un)(a i:Nat):List Dc:=(foL x l a).take i
theorem Ad{x:Co}{l:List Un}{a i:Nat}(hi:i<=l.length):(foT x l a i).length=i:=by
 unfold foT foL;rw[List.length_take,List.length_map];omega
theorem J7{x:Co}{l:List Un}{a i:Nat}(hi:i<l.length):foT x l a (i+1)=foT x l a i++ [foU x a (l.getD i default)]:=by
 unfold foT foL;rw[List.take_add_one,List.getElem?_map,gdqA,zg hi];rfl
theorem tu(x:Co)(l:List Un)(a:Nat):foT x l a l.length=foL x l a:=by
 unfold foT;refine ltl ?_;unfold foL;rw[List.length_map];exact nlr _
theorem SX(x:Co)(l:List Un)(a:Nat)(h:JN)(hx:coE x=0)(hu:vr x l=true)(hl:l.length<=1000000)(hxn:x.col.length<=1000000):ACalls Tryz.prog 16 [.agg (coC x),qZ l,.int .i64 (a:Int)] h (vI (foL x l a)) h:=by
 have ho:=j6 hx;have hsg:=ho.sg;have zl0:qZ l= .sl l.length λi=>unC (l.getD i default):=rfl
 have zl1: ∀g,valL g .len [qZ l]= .int .i64 l.length:=λ_=>rfl
 have zl2: ∀g,okL g .len [qZ l]=True:=λ_=>eqt trivial
 have zs0:strs x.sig= .sl x.sig.length λi=> [.str (x.sig.getD i [])]:=rfl
 have zc0:qn x.col= .sl x.col.length λi=> [qx (x.col.getD i [])]:=rfl
 refine acO Oi ?_;simp (disch:=omega) only[Rh,coC,zl1,zl2,go_sem];refine qr (T:=λs:Nat×Nat×AObj×AObj×AObj=>qY 73 [(2,.int .i64 (a:Int)),(3,.op h.length 1 0),(7,.osl (h.length+2) s.2.1 4 0 s.1),(14,qZ l),(15,.int .i64 l.length),(16,.int .i64 s.1)])
  (H:=λs=>h++ [.mem 1 26 (coC x),.emp 1,ze s.2.1 65 (yU (foT x l a s.1)),s.2.2.1,s.2.2.2.1,s.2.2.2.2,.emp 0])
  (inv:=λs=>s.1<=l.length∧qG [s.2.2.1] 0=true∧qG [s.2.2.2.1] 0=true∧qG [s.2.2.2.2] 0=true) (m:=λs=>l.length-s.1) (0,1,.emp 0,.emp 0,.emp 0) ⟨nzl _,rfl,rfl,rfl⟩ (Wk.temps ?_) ?_
 ·(simp only[go_sem,qg,qc,qb,qf];try exact tT)
 rintro⟨i,vb,O1,O2,O3⟩ ⟨i1,i2,i3,i4⟩ K hK;simp only at i1 i2 i3 i4 hK;have i2': ∀m,qG (O1::m) 0=true:=λ_=>i2
 have i3': ∀m,qG (O2::m) 0=true:=λ_=>i3
 have i4': ∀m,qG (O3::m) 0=true:=λ_=>i4
 have hFl:=Ad (x:=x) (a:=a) i1
 by_cases hi:i<l.length
 case neg=>
  have k1:((i:Int)<l.length)=False:=eqf oma;obtain rfl:i=l.length:=by omega
  simp (disch:=omega) only[k1,go_sem]
  repeat' first|(apply qa;exact rvk;simp only[go_sem])
  rw[tu];rw[tu]at hFl;exact Qu hFl.symm
 have k1:((i:Int)<l.length)=True:=eqt oma;have hS:=J7 (x:=x) (a:=a) hi;obtain⟨F,hF⟩:=Qt (foT x l a i)
 rw[<-hF]at hS hFl ⊢;have eC:=i7 F;have eTk:List.take (i*4) (yU F)=yU F:=ltl oma;obtain⟨a1,a2,a3,a4,a5⟩:=jz hu hi;obtain⟨u,huu⟩:=Qt (l.getD i default)
 have eu:=huu.symm;rw[eu]at a1 a2 hS;obtain⟨f,hf⟩:=Qt (frN l i)
 obtain⟨t,ht⟩:=Qt (toN l i)
 rw[<-hf]at a1 a3;rw[<-ht]at a2 a3 a4;have eU:foU x a u=foD (foC x a f (t-f)):=by unfold foU;rw[a1,a2];rfl
 obtain⟨U3,hU3⟩:=Qt (qo (some O1)+1)
 obtain⟨U4,hU4⟩:=Qt (qo (some O2)+1)
 simp (disch:=omega) only[zl0,unC,k1,eu,i2',i3',a1,a2,go_sem]
 repeat' first|with_reducible apply aiA|exact clz|fail
 refine qr (T:=λd:Nat=>qY 73 [(2,.int .i64 (a:Int)),(3,.op h.length 1 0),(7,.osl (h.length+2) vb 4 0 i),(9,.op (h.length+3) U3 0),(10,.op (h.length+4) U4 0),(11,.int .i64 ((f+d:Nat):Int)),(14,qZ l),(15,.int .i64 l.length),(16,.int .i64 i)])
  (H:=λd=>h++ [.mem 1 26 (coC x),.emp 1,ze vb 65 (yU F),.mem U3 39 [.int .i64 (f:Int),.int .i64 (t:Int),jM u.rds],.mem U4 65 (dcC (foD (foC x a f d))),O3,.emp 0])
  (inv:=λd=>d<=t-f) (m:=λd=>t-f-d) 0 (nzl _) ?_ ?_
 ·rw[hU3,hU4];refine Wk.temps ?_
  (simp only[go_sem,qg,qc,qb,qf];try exact tT)
 rintro d j1 K2 hK2
 try simp only at hK2
 by_cases hd:d<t-f
 case neg=>
  obtain rfl:d=t-f:=by omega
  have m1:(((f+(t-f):Nat):Int)<(t:Int))=False:=eqf oma;rw[<-eU];rw[hU4];simp (disch:=omega) only[m1,dcC,i4',eC,eTk,hFl,go_sem]
  repeat' first|with_reducible apply aiA
  all_goals try first
   |omega
   |(rw[bne_iff_ne];omega)
  have eA:yU F++dcC (foU x a u)=yU (foT x l a (i+1)):=by rw[hS,Jw,Jy]
  simp only[dcC]at eA
  try rw[eA]
  refine hK _ _ (i+1,vb+1,.mem U3 39 [.int .i64 (f:Int),.int .i64 (t:Int),jM u.rds],.mem (qo (some O2)+1) 65 (dcC (foU x a u)),.mem (qo (some O3)+1) 65 (dcC (foU x a u))) ⟨hi,rfl,rfl,rfl⟩ (by simp only;omega) ?_;simp only[hS,dcC];refine Wk.temps ?_
  (simp only[go_sem,qg,qc,qb,qf];try exact tT)
 have m1:(((f+d:Nat):Int)<(t:Int))=True:=eqt oma;have m2:(((f+d:Nat):Int)<(x.col.length:Int))=True:=eqt oma;have m3:(0<=((f+d:Nat):Int))=True:=eqt oma;have hcl:=ho.cl (f+d) oma;obtain⟨row,hrow⟩:=Qt (x.col.getD (f+d) [])
 have erow:=hrow.symm;rw[erow]at hcl;have zr0:qx row= .sl row.length λi=> [.int .i64 (row.getD i 0)]:=rfl
 have zr1: ∀g,valL g .len [qx row]= .int .i64 x.sig.length:=λ_=>by rw[<-hcl];rfl
 have zr2: ∀g,okL g .len [qx row]=True:=λ_=>eqt trivial
 obtain⟨c,hc⟩:=Qt (f+d)
 have ec:=hc.symm;have hcs:foC x a f (d+1)=foR x a c (foC x a f d) x.sig.length:=by rw[hc];rfl
 simp only[ec]at m1 m2 m3 erow ⊢;rw[ec]at hrow;obtain⟨o,hoo⟩:=Qt (foC x a f d)
 rw[<-hoo]at hcs ⊢;simp (disch:=omega) only[m1,m2,m3,coC,zc0,erow,zr1,zr2,go_sem]
 repeat' first|with_reducible apply aiA|exact clz|fail
 refine qr (T:=λs:Nat=>qY 73 [(2,.int .i64 (a:Int)),(3,.op h.length 1 0),(7,.osl (h.length+2) vb 4 0 i),(9,.op (h.length+3) U3 0),(10,.op (h.length+4) U4 0),(11,.int .i64 (c:Int)),(14,qZ l),(15,.int .i64 l.length),(16,.int .i64 i),(33,qx row),(34,.int .i64 x.sig.length),(35,.int .i64 (s:Int))])
  (H:=λs=>h++ [.mem 1 26 (coC x),.emp 1,ze vb 65 (yU F),.mem U3 39 [.int .i64 (f:Int),.int .i64 (t:Int),jM u.rds],.mem U4 65 (dcC (foD (foR x a c o s))),O3,.emp 0])
  (inv:=λs=>s<=x.sig.length) (m:=λs=>x.sig.length-s) 0 (nzl _) (Wk.temps ?_) ?_
 ·(simp only[go_sem,qg,qc,qb,qf];try exact tT)
 rintro s g1 K3 hK3
 try simp only at hK3
 by_cases hs:s<x.sig.length
 case neg=>
  obtain rfl:s=x.sig.length:=by omega
  have q1:((x.sig.length:Int)<x.sig.length)=False:=eqf oma;rw[<-hcs];simp (disch:=omega) only[q1,go_sem];refine hK2 _ _ (d+1) oma oma (Wk.temps ?_)
  (simp only[show ((f+(d+1):Nat):Int)=(c:Int)+1 by omega,go_sem,qg,qc,qb,qf];try exact tT)
 have q1:((s:Int)<x.sig.length)=True:=eqt oma;have q2:(0<=(s:Int))=True:=eqt oma;have q3:((s:Int)<row.length)=True:=eqt oma;have hR:foR x a c o (s+1)=foS x a c (foR x a c o s) s:=rfl;obtain⟨p,hp⟩:=Qt (foR x a c o s)
 rw[<-hp]at hR ⊢;obtain⟨n,hn⟩:=Qt (row.getD s 0)
 have en:=hn.symm;unfold foS at hR;rw[erow,en]at hR
 by_cases g2:n<0
 ·have q4:(n<0)=True:=eqt g2;rw[ipo g2]at hR;simp (disch:=omega) only[q1,q2,q3,zr0,en,q4,go_sem]
  repeat' first|with_reducible apply aiA|exact clz|fail
  refine hK3 _ _ (s+1) hs oma ?_;simp only[hR];refine Wk.temps ?_
  (simp only[go_sem,qg,qc,qb,qf];try exact tT)
 have q4:(n<0)=False:=eqf g2;rw[ine g2]at hR
 by_cases g3:s=a
 ·have q5:((s:Int)=(a:Int))=True:=eqt oma;rw[ipo g3]at hR;simp (disch:=omega) only[q1,q2,q3,zr0,en,q4,q5,coC,zs0,dcC,go_sem]
  repeat' first|with_reducible apply aiA|exact clz|fail
  refine hK3 _ _ (s+1) hs oma ?_;simp only[hR];refine Wk.temps ?_
  (simp only[go_sem,qg,qc,qb,qf];try exact tT)
 have q5:((s:Int)=(a:Int))=False:=eqf oma;rw[ine g3]at hR;have zD:dcC (foD p)= [.int .i64 p.k,.str p.g,.int .i64 p.t,.str []]:=rfl
 by_cases g4:p.g= []
 ·have q6:(p.g= [])=True:=eqt g4;rw[ipo g4]at hR;simp (disch:=omega) only[q1,q2,q3,zr0,en,q4,q5,coC,zs0,zD,q6,go_sem]
  repeat' first|with_reducible apply aiA|exact clz|fail
  refine hK3 _ _ (s+1) hs oma ?_;simp only[hR];refine Wk.temps ?_
  (simp only[go_sem,qg,qc,qb,qf];try exact tT)
 have q6:(p.g= [])=False:=eqf g4;rw[ine g4]at hR;simp (disch:=omega) only[q1,q2,q3,zr0,en,q4,q5,coC,zs0,zD,q6,go_sem]
 repeat' first|with_reducible apply aiA|exact clz|fail
 refine hK3 _ _ (s+1) hs oma ?_;simp only[hR];refine Wk.temps ?_
 (simp only[go_sem,qg,qc,qb,qf];try exact tT)
def zT:Co:=⟨[73],[[65],[66]],[[tkS [97],tkS [99]],[tkS [98],tkS [99]]],[[0,0],[1,1]]⟩
def zL:List Un:=utR zT
def zB:List Wd:=esR zT zL [] 1
theorem Uu:utE zT=0:=by decide+kernel
theorem Ut:esE zT zL [] 1=0:=by decide+kernel
theorem RY:soE zT zL zB 0=0∧soL zT zL zB 0= [1]:=by decide+kernel
theorem RZ:soE zT zL zB 1=0∧soL zT zL zB 1= [0,1]:=by decide+kernel
theorem Uw:oG zB= [[98],[99]]:=by decide+kernel
theorem Lx(s:Str)(h:JN):ACalls Tryz.prog 61 [.str s] h (.agg (tkC (tkS s))) h:=by
 unfold tkS tkC;refine acO Ot ?_;simp (disch:=omega) only[Rm,go_sem]
 repeat' first|exact tF|fail
theorem Sv(h:JN)(hp:kM SG h)(hg:jb h frmN frmC):ACalls Tryz.prog 11 [] h (.bool true) h:=by
 have c1:=λs h=>Lx s h
 unfold tkS tkC at c1;refine acO Og ?_;simp (disch:=omega) only[Re,go_sem]
 repeat' first|(refine qz (c1 [97] _) ?_;simp (disch:=omega) only[go_sem])|(refine qz (c1 [98] _) ?_;simp (disch:=omega) only[go_sem])|(refine qz (c1 [99] _) ?_;simp (disch:=omega) only[go_sem])
 refine⟨_,_,Wk.freezeX [h.length,h.length+1,h.length+2,h.length+3,h.length+4,h.length+5,h.length+6] (j:=h.length+7) (v:=1) (ty:=26) (cs:= [.str [73],.osl h.length 1 1 0 2,.osl (h.length+3) 1 1 0 2,.osl (h.length+6) 1 1 0 2]) (cs':=coC zT) ?w1 ?w2 ?w3 ?w5,?_⟩
 case w1=>simp only[ky,go_sem]
 case w2=>simp only[go_sem]
 case w3=>simp
 case w5=>
  obtain⟨fz,hfz⟩: ∃fz:Nat->Bool,fz=λk=> [h.length,h.length+1,h.length+2,h.length+3,h.length+4,h.length+5,h.length+6].contains k:=⟨_,rfl⟩
  rw[<-hfz];have f0:fz (h.length)=true:=by rw[hfz];simp
  have f1:fz (h.length+1)=true:=by rw[hfz];simp
  have f2:fz (h.length+2)=true:=by rw[hfz];simp
  have f3:fz (h.length+3)=true:=by rw[hfz];simp
  have f4:fz (h.length+4)=true:=by rw[hfz];simp
  have f5:fz (h.length+5)=true:=by rw[hfz];simp
  have f6:fz (h.length+6)=true:=by rw[hfz];simp
  clear hfz;simp only[go_sem,coC,List.map_cons,List.map_nil,f0,f3,f6,if_true];refine⟨qi,vl2 ⟨ie rfl,trivial⟩ ⟨ie rfl,trivial⟩,vl2 ⟨?a1,trivial⟩ ⟨?a2,trivial⟩,vl2 ⟨?a3,trivial⟩ ⟨?a4,trivial⟩,trivial⟩
  all_goals
   simp only[go_sem,f1,f2,f4,f5,if_true];exact il2 rfl rfl
 have zs:yv zT:=(Xq (by decide+kernel)).1;have zu:aM zL:=(H8 (by decide+kernel)).1;have c2:=λl'=>LG zT (h++l') zs (hp.app l')
 rw[Uu,show utR zT=zL from rfl]at c2;have c3:=λl'=>(RA zT zL [] 1 (h++l') zs zu (hp.app l') hg.app (by simp) (by simp) (λg=>Qk (by decide+kernel) (by simp) g)).le (args:= [.agg (coC zT),qZ zL,.nl,.int .i64 1]) ⟨qi,qi,qU,qi,trivial⟩ (qi)
 rw[Ut,show esR zT zL [] 1=zB from rfl]at c3;have bl:zB.length<=1000000:=by decide+kernel
 have ht: ∀i,(zB.getD i default).text.length<=1000000000:=jt zB (λw=>w.text.length<=1000000000) (by decide) (by decide+kernel);have c4:=λl'=>im zT zL zB 0 (h++l') zs zu bl ht (by decide) (hp.app l')
 have c5:=λl'=>im zT zL zB 1 (h++l') zs zu bl ht (by decide) (hp.app l')
 rw[RY.1,RY.2]at c4;rw[RZ.1,RZ.2]at c5;have w1:=λh=>M1 zB h bl
 rw[Uw]at w1;obtain⟨B,hB⟩:=Qt zB
 obtain⟨L,hL⟩:=Qt zL
 simp only[<-hB,<-hL]at c2 c3 c4 c5 w1;unfold coC at c2 c3 c4 c5;have g0:([h.length,h.length+1,h.length+2,h.length+3,h.length+4,h.length+5,h.length+6]:List Nat).contains (h.length)=true:=by simp
 have g1:([h.length,h.length+1,h.length+2,h.length+3,h.length+4,h.length+5,h.length+6]:List Nat).contains (h.length+1)=true:=by simp
 have g2:([h.length,h.length+1,h.length+2,h.length+3,h.length+4,h.length+5,h.length+6]:List Nat).contains (h.length+2)=true:=by simp
 have g3:([h.length,h.length+1,h.length+2,h.length+3,h.length+4,h.length+5,h.length+6]:List Nat).contains (h.length+3)=true:=by simp
 have g4:([h.length,h.length+1,h.length+2,h.length+3,h.length+4,h.length+5,h.length+6]:List Nat).contains (h.length+4)=true:=by simp
 have g5:([h.length,h.length+1,h.length+2,h.length+3,h.length+4,h.length+5,h.length+6]:List Nat).contains (h.length+5)=true:=by simp
 have g6:([h.length,h.length+1,h.length+2,h.length+3,h.length+4,h.length+5,h.length+6]:List Nat).contains (h.length+6)=true:=by simp
 have g7:([h.length,h.length+1,h.length+2,h.length+3,h.length+4,h.length+5,h.length+6]:List Nat).contains (h.length+7)=false:=by simp
 simp (disch:=omega) only[xa,coC,g0,g1,g2,g3,g4,g5,g6,g7,Bool.false_eq_true,go_sem]
 repeat' first|((first|refine cA (c2 _) ?_ ?_|refine cA (c3 _) ?_ ?_|refine cA (c4 _) ?_ ?_|refine cA (c5 _) ?_ ?_|refine cG (λe=>w1 _) ?_ ?_);exact flk;simp (disch:=omega) only[go_sem])|with_reducible apply aiA|exact clz|fail
 refine cG (λ_=>SL (L:= [[98],[99]]) ?v2 (by decide)) (λ_=>by exact flk) ?_
 case v2=>
  simp only[List.map,go_sem];exact⟨qi,VLe.sl_eq rfl (λi hi=>by
   match i,hi with
   |0,_=>rfl
   |1,_=>rfl
   |n+2,hi=>exact absurd hi oma),trivial⟩
 simp (disch:=omega) only[go_sem];refine cG (λ_=>Rz (L:= [1]) ?v1 (by decide)) (λ_=>by exact flk) ?_
 case v1=>
  simp only[List.map,go_sem];exact⟨qi,VLe.sl_eq rfl (λi hi=>by
   obtain rfl:i=0:=by omega
   rfl),trivial⟩
 simp (disch:=omega) only[go_sem];refine cG (λ_=>Rz (L:= [0,1]) ?v3 (by decide)) (λ_=>by exact flk) ?_
 case v3=>
  simp only[List.map,go_sem];exact⟨qi,VLe.sl_eq rfl (λi hi=>by
   match i,hi with
   |0,_=>rfl
   |1,_=>rfl
   |n+2,hi=>exact absurd hi oma),trivial⟩
 simp (disch:=omega) only[go_sem]
 repeat' first|exact tF|fail
theorem fw1(u:Un)(x:Co)(k v:Nat)(h:JN)(hk:qu k h=some (.mem v 26 (coC x)))(h1:0<=u.frm)(h2:u.to<=x.col.length):ACalls Tryz.prog 15 [.agg (unC u),.op k v 0] h (.bool false) h:=by
 have hkl:=zh hk;have hc: ∀l,cellsOf (h++l) k v=some [.str x.sec,strs x.sig,qm x.tok,qn x.col]:=λl=>by
  have hk2:qu k (h++l)=some (.mem v 26 (coC x)):=by
   unfold qu at hk ⊢;rw[List.getElem?_append_left hkl];exact hk
  exact qJ hk2
 have zl1: ∀g,valL g .len [qn x.col]= .int .i64 x.col.length:=λ_=>rfl
 have zl2: ∀g,okL g .len [qn x.col]=True:=λ_=>eqt trivial
 have k1:(u.frm<0)=False:=eqf oma;have k2:((x.col.length:Int)<u.to)=False:=eqf oma;refine acO Oh ?_;simp (disch:=omega) only[Rf,unC,hc,zl1,zl2,k1,k2,go_sem]
 repeat' first|exact tF|with_reducible apply aiA|exact clz|fail
theorem fwU(l:List Un)(x:Co)(k v:Nat)(h:JN)(hk:qu k h=some (.mem v 26 (coC x)))(hn:l.length<=1000000000)(hu: ∀i,i<l.length->0<=(l.getD i default).frm∧(l.getD i default).to<=x.col.length):
  ACalls Tryz.prog 14 [qZ l,.fn (.func 15) [] [.op k v 0]] h (.bool false) h:=by
 have e:jm (λ_=>false) l.length=false:=qq.2 λ_ _=>rfl
 rw[<-e];refine W4 Gp ⟨rfl,rfl⟩ ⟨rfl,rfl⟩ (y4 Aa l.length (λj=>unC (l.getD j default)) (λj=> .agg (unC (l.getD j default))) _ [] [.op k v 0] _ h (λi _=>⟨rfl,by simp[jK,unC],rfl,rfl,rfl⟩) (λi hi=> ?_) oma);exact fw1 _ x k v h hk (hu i hi).1 (hu i hi).2
end RC
end
section
open Go Go.Proofs AF
def KD:List Nat:= [17]
def c3w:C:=
 (pk [O1 3 (.box 0 26) 0,MC 6 (.bool false)] ((pk [O1 23 (.load (some 4)) 3,O1 24 (.call 9 true) 23,MV 25 24,oX 26 25 (.load (some 4)) 3,oX 27 25 (.call 10 true) 26,ph 28 25
 (.bin .neq) 27 (i6 0),PT 29 25 28,MV 30 29,tv 31 30 1 3,tE 32 30 31,oX 33 30 .len 32,ph 34 30 (.bin .eql) 33 (i6 0),PT 35 30 34] (p7 35 (p9 [ON 36 (.call 11 true) [],MV 6
 36]))).seq (pk [MV 37 1,O1 38 (.conv .i64) 37,oE 39 1 3,LD 40 39,O1 41 .len 40,BI 42 .rem 38 41,MV 43 2,O1 44 (.conv .i64) 43,oE 45 1 3,LD 46 45,O1 47 .len 46,BI 48 .rem 44
 47,MV 7 42,MV 8 48] (pk [O1 50 (.load (some 4)) 3,O1 51 (.call 12 true) 50,MV 49 51,O1 52 (.ext 0) 49,O1 53 (.ext 1) 49,MV 9 52,MV 10 53] (pk [O1 55 (.load (some 4)) 3,MV 56
 7,O2 57 (.call 13 true) 55 56,MV 54 57,O1 58 (.ext 0) 54,O1 59 (.ext 1) 54,MV 11 58,MV 12 59] ((pk [MV 60 10,oT 61 .neq 60 0,MV 62 61,pc 63 62 12,ph 64 62 (.bin .neq) 63 (i6
 0),PT 65 62 64,MV 66 65,pc 67 66 9,oX 68 66 (.mkfn (Fn.func 15) 0) 3,pb 69 66 (.call 14 true) 67 68,PT 70 66 69] (p7 70 (p9 [MC 6 (.bool false)]))).seq ((pk [O1 71 (.load (some
 4)) 3,MV 72 9,MV 73 7,ON 74 (.call 16 true) [.t 71,.t 72,.t 73],MV 75 8,⟨some 76,none,.build [.nl,i6 0] [(0,1),(1,1)],[.t 74,.t 75]⟩,MV 77 7,⟨some 78,none,.build [.nl,i6 0]
 [(0,1),(1,1)],[.c .nl,.t 77]⟩,⟨some 79,none,.bslc 1 2 2 43 [.nl,i6 0] [(0,2),(2,2)],[.t 76,.t 78]⟩,O1 80 .len 79,oF 81 0] (C.block 0 (pk [BI 82 .lss 81 80] ((p8 82 0).seq
 ((C.block 1 (pk [O2 83 (.idxA 2) 79 81,O1 84 (.load (some 2)) 83,⟨some 14,none,.alloc 2 43 [.nl,i6 0],[]⟩,ST 2 14 84] (pk [O1 86 (.load (some 4)) 3,MV 87 9,oE 88 0 14,LD 89
 88,oE 90 1 14,LD 91 90,ON 92 (.call 17 false) [.t 86,.t 87,.t 89,.t 91],MV 85 92,O1 93 (.ext 0) 85,O1 94 (.ext 1) 85,MV 15 93,MV 16 94] ((pk [MV 95 16,oT 96 .neq 95 0,MV 97
 96,pc 98 97 15,oX 99 97 (.call 19 true) 98,pc 100 97 11,pb 101 97 (.call 18 true) 99 100,oX 102 97 (.un UnOp.not) 101,PT 103 97 102,MV 104 103,oX 105 104 (.load (some 4)) 3,pc
 106 104 9,pc 107 104 15,PN 108 104 false (.call 20 true) [.t 105,.t 106,.t 107],ph 109 104 (.bin .neq) 108 (i6 0),PT 110 104 109] (p7 110 (p9 [MC 6 (.bool false)]))).seq ((pk
 [MV 111 15,O1 112 .len 111,oF 113 0] (C.block 2 (pk [BI 114 .lss 113 112] ((p8 114 2).seq ((C.block 3 (pk [MV 115 113,MV 17 115] (pk [O1 117 (.load (some 4)) 3,MV 118 9,MV 119
 15,MV 120 17,ON 121 (.call 21 true) [.t 117,.t 118,.t 119,.t 120],MV 116 121,O1 122 (.ext 0) 116,O1 123 (.ext 1) 116,MV 18 122,MV 19 123] (pk [MV 124 19,oT 125 .neq 124 0,MV
 126 125,pc 127 126 18,pc 128 126 7,pb 129 126 (.call 22 true) 127 128,oX 130 126 (.un UnOp.not) 129,PT 131 126 130] (p7 131 (p9 [MC 6 (.bool false)])))))).seq (rv [oT 132 .add
 113 1,MV 113 132])))).loop)).seq (pk [O1 134 (.load (some 4)) 3,MV 135 9,MV 136 15,MV 137 7,ON 138 (.call 23 true) [.t 134,.t 135,.t 136,.t 137],MV 133 138,O1 139 (.ext 0)
 133,O1 140 (.ext 1) 133,O1 141 (.ext 2) 133,MV 20 139,MV 21 140,MV 22 141] (pk [MV 142 22,oT 143 .neq 142 0,MV 144 143,pc 145 144 20,pc 146 144 21,pb 147 144 (.bin .neq) 145
 146,PT 148 144 147,MV 149 148,pc 150 149 21,pc 151 149 9,oX 152 149 .len 151,pb 153 149 (.bin .neq) 150 152,PT 154 149 153] (p7 154 (p9 [MC 6 (.bool false)]))))))))).seq (rv
 [oT 155 .add 81 1,MV 81 155])))).loop)).seq (p9 [ON 156 (.call 11 true) [],MV 6 156]))))))))
theorem On:qK Tryz.prog 3 157 3 [RV.tmp 6] c3w:=fi Tryz.f3 [3,79,14] KD []
end
section
open Go Go.Proofs AF HY LN
namespace RC
structure Wy (x:Co) (l:List Un) (d:List Dc) (L s:Nat) (b:List Wd):Prop where
 e:esE x l d L=0
 r:esR x l d L=b
 n:b.length<=1024
 w:oG b=fQ (x.tok.getD s [])
 p:pvE x l b=0
 t: ∀i,(b.getD i default).text.length<=1000000000
 so: ∀i,i<b.length->soE x l b (i:Int)=0∧(s:Int)∈soL x l b (i:Int)
 a:agE x l b s=0∧agN x l b s=l.length∧agM x l b s=l.length
theorem XR{x:Co}{l:List Un}{d:List Dc}{L s:Nat}(E:wt x l d L)(hs:s<x.sig.length)(hF:XS x l d L s):Wy x l d L s (bsW (rwA x l d L)):=by
 have e1:=E.esE;have hpv:=N9 E;have hn:=E.ln;have ho:=j6 E.ca;have F:=λi (hi:i<(rwA x l d L).length)=>JD E hi rfl
 obtain⟨b,hb⟩:=Qt (bsW (rwA x l d L))
 have hbl:b.length=(rwA x l d L).length:=by rw[hb,jU]
 rw[<-hb]at hpv F ⊢;have a1:agE x l b s=0:=by unfold agE;rw[ine (by simp[hpv]),ine oma]
 have a2:cP (agB l b s) l.length=l.length:=by rw[hb];exact HZ E hs hF
 refine⟨e1,?_,oma,?_,hpv,?_,λi hi=> ?_,a1,?_,?_⟩
 ·unfold esR;rw[ipo e1,itn,hb]
 ·have h1:=lv E.us E.cv ho E.sl hs hF;have h2:oG b=(rwA x l d L).map rwT:=by
   refine List.ext_getElem (by unfold oG;rw[List.length_map,List.length_map,hbl]) λi g1 g2=> ?_
   rw[List.length_map]at g2
   have:=fX (L:=rwA x l d L) g2
   rw[<-hb,gdqA,gdqA,zg oma,zg g2]at this;unfold oG;exact (List.getElem_map (λw:Wd=>w.text)).trans (this.trans (List.getElem_map rwT).symm)
  rw[h2,h1];rfl
 ·exact jt b (λw=>w.text.length<=1000000000) (by decide) λi hi=>by have:=(F i oma).2.1.2;omega
 ·have s1:soE x l b (i:Int)=0:=by unfold soE;rw[ine (by simp[hpv]),ine oma]
  refine⟨s1,?_⟩;unfold soL;rw[ipo s1,itn,hb];exact H2 E hs hF oma
 ·unfold agN;rw[ipo a1,a2]
 ·unfold agM;rw[ipo a1]
theorem OT(x:Co)(q p:Nat)(h:JN)(hq:q<=255)(hq2:p<=255)(hp:kM SG h)(hg:jb h frmN frmC)(h1:CoB x):
  ACalls Tryz.prog 3 [.agg (coC x),.int .u8 (q:Int),.int .u8 (p:Int)] h (.bool true) h:=by
 have c1:=λh=>SY x h h1
 have c2:=λl'=>Sv (h++l') (hp.app l') hg.app
 cases e1:Dk x with
 |true=>
  rw[e1]at c1;unfold coC at c1;refine acO On ?_;simp (disch:=omega) only[c3w,coC,go_sem]
  repeat' first|(refine qj ( .int .i64 0) ?_;simp (disch:=omega) only[coC,go_sem])|(refine qj ( .bool false) ?_;simp (disch:=omega) only[coC,go_sem])|((first|refine cA (c1 _) ?_ ?_|refine cG (λe=>c1 _) ?_ ?_|refine cA (c2 _) ?_ ?_|refine cG (λe=>c2 _) ?_ ?_|refine cU (λ_=>c1 _) ?_ ?_|refine cU (λ_=>c2 _) ?_ ?_);exact flk;simp (disch:=omega) only[coC,go_sem])|((first|apply qa|apply qh);exact rvk;simp only[go_sem];first|exact qi|apply qe|apply qd|apply vL|skip)|(with_reducible first|intro _|apply aiA)|exact clz|fail
 |false=>
 obtain⟨o1,o2,o3⟩:=Xq e1;have c3:=λl'=>coR x (h++l') o1 (hp.app l')
 rw[e1]at c1
 by_cases e2:coE x=0
 case neg=>
  have k2:(coE x=0)=False:=eqf e2;obtain⟨E,hE⟩:=Qt (coE x)
  simp only[<-hE]at c3 k2;unfold coC at c1 c3;refine acO On ?_;simp (disch:=omega) only[c3w,coC,go_sem]
  repeat' first|((first|refine cA (c1 _) ?_ ?_|refine cG (λe=>c1 _) ?_ ?_|refine cA (c3 _) ?_ ?_|refine cG (λe=>c3 _) ?_ ?_|refine cA (c2 _) ?_ ?_|refine cG (λe=>c2 _) ?_ ?_|refine cU (λ_=>c1 _) ?_ ?_|refine cU (λ_=>c3 _) ?_ ?_|refine cU (λ_=>c2 _) ?_ ?_);exact flk;simp (disch:=omega) only[coC,k2,go_sem])|((first|apply qa|apply qh);exact rvk;simp only[go_sem];first|exact qi|apply qe|apply qd|apply vL|skip)|(with_reducible first|intro _|apply aiA)|exact clz|fail
 simp only[e2]at c3;have ho:=j6 e2;have hsg:=ho.sg;have zu:=CE (x:=x) oma oma;have hus:=v8 x;have hcv:=Za x;have hva:=CG e2;have hll:(yt x).length<=x.col.length:=by
  have h1:=cw (s:=0) (v8 x) (d:= []) (by simp) (yt x).length (nlr _);have h2:=vX (v8 x) (nlr (yt x).length);omega
 have c4:=λl'=>LG x (h++l') o1 (hp.app l')
 have u1:utR x=yt x:=by unfold utR;rw[ipo e2]
 have u2:utE x=0:=by unfold utE;rw[ipo e2]
 rw[u1,u2]at c4;obtain⟨s,hs⟩:=Qt (q%x.sig.length)
 obtain⟨n,hn⟩:=Qt (p%x.sig.length)
 have hsl:s<x.sig.length:=by rw[hs];exact Nat.mod_lt _ hsg.1
 have hnl:n<x.sig.length:=by rw[hn];exact Nat.mod_lt _ hsg.1
 have hs1:(q:Int)%(x.sig.length:Int)=(s:Int):=by rw[hs];omega
 have hn1:(p:Int)%(x.sig.length:Int)=(n:Int):=by rw[hn];omega
 have c5:=λl'=>NS x (s:Int) (h++l') o1 (hp.app l')
 have t1:txE x (s:Int)=0:=by unfold txE;rw[ine (by simp[e2]),ine oma]
 have t2:txR x (s:Int)=fQ (x.tok.getD s []):=by unfold txR;rw[ipo t1,itn]
 rw[t1,t2]at c5;obtain⟨l,hl⟩:=Qt (yt x)
 rw[<-hl]at c4 zu hus hcv hva hll;have c6:=λh=>SX x l s h e2 hus oma oma
 obtain⟨D,hD⟩:=Qt (foL x l s)
 have hDl:D.length=l.length:=by rw[hD];unfold foL;rw[List.length_map]
 have hDt: ∀o∈D,o.txt.length<=1000:=λo hoo=>by
  rw[hD]at hoo;unfold foL at hoo;obtain⟨u,_,rfl⟩:=List.mem_map.1 hoo;exact nzl _
 have W0:Wy x l D n s (bsW (rwA x l D n)):=by
  rw[hD];exact XR (OI hva oma hsl hnl) hsl (Xo e2 hus hsl)
 have W1:Wy x l [] s s (bsW (rwA x l [] s)):=XR (wt.mk0 hva hsl (by have:=hU (s:=s) hus;omega)) hsl Af;simp only[<-hD]at c6;obtain⟨w,hw⟩:=Qt (fQ (x.tok.getD s []))
 have hwl:w.length<=1024:=by rw[hw];unfold fQ;rw[List.length_map];exact ho.tl s (by rw[ho.tn];exact hsl)
 simp only[<-hw]at c5;have c7:=λl' hk=>fwU l x h.length 1 (h++l') hk oma λi hi=>by
  obtain⟨a1,a2,a3,a4,_⟩:=jz hus hi;omega
 have zg1: ∀g,valL g .len [strs x.sig]= .int .i64 x.sig.length:=λ_=>rfl
 have zg2: ∀g,okL g .len [strs x.sig]=True:=λ_=>eqt trivial
 have k0:((x.sig.length:Int)=0)=False:=eqf oma;obtain⟨CS,hCS⟩:=Qt ( [vI D,.int .i64 (n:Int),.nl,.int .i64 (s:Int)])
 have hCl:CS.length=4:=by rw[hCS];rfl
 unfold coC at c1 c3 c4 c5 c6;refine acO On ?_;simp (disch:=omega) only[c3w,coC,zg1,zg2,k0,hs1,hn1,go_sem]
 repeat' first|((first|refine cA (c1 _) ?_ ?_|refine cG (λe=>c1 _) ?_ ?_|refine cA (c3 _) ?_ ?_|refine cG (λe=>c3 _) ?_ ?_|refine cA (c4 _) ?_ ?_|refine cG (λe=>c4 _) ?_ ?_|refine cA (c5 _) ?_ ?_|refine cG (λe=>c5 _) ?_ ?_|refine cU (λ_=>c1 _) ?_ ?_|refine cU (λ_=>c3 _) ?_ ?_|refine cU (λ_=>c4 _) ?_ ?_|refine cU (λ_=>c5 _) ?_ ?_);exact flk;simp (disch:=omega) only[coC,zg1,zg2,k0,hs1,hn1,go_sem])|((first|apply qa|apply qh);exact rvk;simp only[go_sem];first|exact qi|apply qe|apply qd|apply vL|skip)|(with_reducible first|intro _|apply aiA)|exact clz|fail
 refine cG (λ_=>c7 _ ?kk) (λ_=>by exact flk) ?_
 case kk=>simp only[go_sem];rfl
 have d1:(vI D).solid=True:=eqt rfl;have d2:(vI D).cells= [vI D]:=rfl;simp (disch:=omega) only[coC,go_sem]
 repeat' first|((first|refine cA (c6 _) ?_ ?_|refine cG (λe=>c6 _) ?_ ?_|refine cU (λ_=>c6 _) ?_ ?_);exact flk;simp (disch:=omega) only[coC,d1,d2,go_sem])|((first|apply qa|apply qh);exact rvk;simp only[go_sem];first|exact qi|apply qe|apply qd|apply vL|skip)|(with_reducible first|intro _|apply aiA)|exact clz|fail
 have eM:List.drop 2 (List.drop 2 (zQ [AV.nl,AV.int IntKind.i64 0] 2))= []:=rfl;rw[eM,<-hCS];have key: ∀i,i<2-> ∃(dd:List Dc) (L:Nat) (DV:AV) (b:List Wd),(CS.drop (i*2)).take 2= [DV,.int .i64 (L:Int)]∧((DV.solid=True)∧DV.strip=DV∧DV.flag=true)∧DV.cells= [DV]∧Wy x l dd L s b∧VLe DV (vI dd)∧dd.length<=1000000∧ ∀o∈dd,o.txt.length<=1000:=λi hi=>by
  match i,hi with
  |0,_=>exact⟨D,n,vI D,_,by rw[hCS];rfl,⟨d1,rfl,rfl⟩,d2,W0,qi,oma,hDt⟩
  |1,_=>exact⟨[],s,.nl,_,by rw[hCS];rfl,⟨eqt rfl,rfl,rfl⟩,rfl,W1,qU,by simp,by simp⟩
  |n+2,hi=>exact absurd hi oma
 refine qr (T:=λi:Nat×AObj=>qY 157 [(3,.op h.length 1 0),(7,.int .i64 (s:Int)),(9,qZ l),(11,strs w),(79,.osl (h.length+1) 1 2 0 2),(80,.int .i64 2),(81,.int .i64 (i.1:Int))])
  (H:=λi=>h++ [.mem 1 26 [.str x.sec,strs x.sig,qm x.tok,qn x.col],.mem 1 43 CS,i.2])
  (inv:=λi=>i.1<=2∧qG [i.2] 0=true) (m:=λi=>2-i.1) (0,.emp 0) ⟨nzl _,rfl⟩ (Wk.temps ?_) ?_
 ·(simp only[go_sem,qg,qc,qb,qf];try exact tT)
 rintro⟨i,O⟩ ⟨i1,i2⟩ K hK;simp only at i1 i2 hK;have i2': ∀m,qG (O::m) 0=true:=λ_=>i2
 by_cases hi:i<2
 case neg=>
  have k1:((i:Int)<2)=False:=eqf oma;simp (disch:=omega) only[k1,go_sem]
  repeat' first|((first|refine cA (c2 _) ?_ ?_|refine cG (λe=>c2 _) ?_ ?_|refine cU (λ_=>c2 _) ?_ ?_);exact flk;simp (disch:=omega) only[k1,go_sem])|((first|apply qa|apply qh);exact rvk;simp only[go_sem];first|exact qi|apply qe|apply qd|apply vL|skip)|(with_reducible first|intro _|apply aiA)|exact clz|fail
 have k1:((i:Int)<2)=True:=eqt oma;have k2:(0<=(i:Int))=True:=eqt oma;obtain⟨dd,L,DV,b,eL,⟨v1,v3,v4⟩,v2,W,vl,dl,dt⟩:=key i hi;have q1:(i*2+2<=CS.length)=True:=eqt oma;have c8:=λl'=>(RA x l dd L (h++l') o1 zu (hp.app l') hg.app dl dt (λg=>Qk oma dt g)).le (args:= [.agg (coC x),qZ l,DV,.int .i64 (L:Int)]) ⟨qi,qi,vl,qi,trivial⟩ (qi)
 rw[W.e,W.r]at c8;have bl:=W.n;have c9:=λh=>M1 b h oma
 rw[W.w,<-hw]at c9;have c10:=λh=>eqS w h oma
 have c11:=λl'=>pvP x l b (h++l') o1 zu oma W.t (hp.app l')
 rw[W.p]at c11;have c14:=λl'=>DC x l b s (h++l') o1 zu oma W.t oma (hp.app l')
 rw[W.a.1,W.a.2.1,W.a.2.2]at c14;have zb1: ∀g,valL g .len [jl b]= .int .i64 b.length:=λ_=>rfl
 have zb2: ∀g,okL g .len [jl b]=True:=λ_=>eqt trivial
 have zl1: ∀g,valL g .len [qZ l]= .int .i64 l.length:=λ_=>rfl
 have zl2: ∀g,okL g .len [qZ l]=True:=λ_=>eqt trivial
 unfold coC at c8 c11 c14;have c8': ∀l',ACalls Tryz.prog 17 (strips [.agg [.str x.sec,strs x.sig,qm x.tok,qn x.col],qZ l,DV,.int .i64 (L:Int)]) (h++l') (.tup [jl b,.int .i64 0]) (h++l'):=λl'=>by
  have e:strips [.agg [.str x.sec,strs x.sig,qm x.tok,qn x.col],qZ l,DV,.int .i64 (L:Int)]= [.agg [.str x.sec,strs x.sig,qm x.tok,qn x.col],qZ l,DV,.int .i64 (L:Int)]:=by
   rw[vC,vC,vC,v3];rfl
  rw[e];exact c8 l'
 simp (disch:=omega) only[k1,k2,i2',q1,eL,v1,v2,hCl,go_sem]
 repeat' first|((first|refine cA (c8' _) ?_ ?_|refine cG (λe=>c8' _) ?_ ?_|refine cA (c9 _) ?_ ?_|refine cG (λe=>c9 _) ?_ ?_|refine cA (c10 _) ?_ ?_|refine cG (λe=>c10 _) ?_ ?_|refine cA (c11 _) ?_ ?_|refine cG (λe=>c11 _) ?_ ?_|refine cU (λ_=>c8' _) ?_ ?_|refine cU (λ_=>c9 _) ?_ ?_|refine cU (λ_=>c10 _) ?_ ?_|refine cU (λ_=>c11 _) ?_ ?_);exact flk;simp (disch:=omega) only[k1,k2,i2',q1,eL,v1,v2,hCl,zb1,zb2,go_sem])|((first|apply qa|apply qh);exact rvk;simp only[go_sem];first|exact qi|apply qe|apply qd|apply vL|skip)|(with_reducible first|intro _|apply aiA)|exact clz|fail
 obtain⟨V,hV⟩:=Qt (qo (some O)+1)
 rw[<-hV];refine qr (T:=λj:Nat=>qY 157 [(3,.op h.length 1 0),(7,.int .i64 (s:Int)),(9,qZ l),(11,strs w),(15,jl b),(79,.osl (h.length+1) 1 2 0 2),(80,.int .i64 2),(81,.int .i64 (i:Int)),(112,.int .i64 b.length),(113,.int .i64 (j:Int))])
  (H:=λ_=>h++ [.mem 1 26 [.str x.sec,strs x.sig,qm x.tok,qn x.col],.mem 1 43 CS,.mem V 43 [DV,.int .i64 (L:Int)]])
  (inv:=λj=>j<=b.length) (m:=λj=>b.length-j) 0 (nzl _) (Wk.temps ?_) ?_
 ·(simp only[go_sem,qg,qc,qb,qf];try exact tT)
 rintro j j1 K2 hK2
 by_cases hj:j<b.length
 ·have m1:((j:Int)<b.length)=True:=eqt oma;have c12:=λl'=>im x l b (j:Int) (h++l') o1 zu oma W.t oma (hp.app l')
  obtain⟨s1,s2⟩:=W.so j hj;rw[s1]at c12;have s3:(soL x l b (j:Int)).length<=1000000000:=by
   unfold soL;rw[ipo s1]
   have:=(B2 W.p hj).1
   rw[itn];omega
  have c13:=λh=>FL (soL x l b (j:Int)) (s:Int) h s3
  rw[dqt s2]at c13;unfold coC at c12;simp (disch:=omega) only[m1,go_sem]
  repeat' first|((first|refine cA (c12 _) ?_ ?_|refine cG (λe=>c12 _) ?_ ?_|refine cA (c13 _) ?_ ?_|refine cG (λe=>c13 _) ?_ ?_|refine cU (λ_=>c12 _) ?_ ?_|refine cU (λ_=>c13 _) ?_ ?_);exact flk;simp (disch:=omega) only[m1,go_sem])|((first|apply qa|apply qh);exact rvk;simp only[go_sem];first|exact qi|apply qe|apply qd|apply vL|skip)|(with_reducible first|intro _|apply aiA)|exact clz|fail
  refine hK2 _ _ (j+1) hj oma (Wk.temps ?_)
  (simp only[go_sem,qg,qc,qb,qf];try exact tT)
 have m1:((j:Int)<b.length)=False:=eqf oma;simp (disch:=omega) only[m1,go_sem]
 repeat' first|((first|refine cA (c14 _) ?_ ?_|refine cG (λe=>c14 _) ?_ ?_|refine cU (λ_=>c14 _) ?_ ?_);exact flk;simp (disch:=omega) only[m1,zl1,zl2,go_sem])|((first|apply qa|apply qh);exact rvk;simp only[go_sem];first|exact qi|apply qe|apply qd|apply vL|skip)|(with_reducible first|intro _|apply aiA)|exact clz|fail
 refine hK _ _ (i+1,.mem V 43 [DV,.int .i64 (L:Int)]) ⟨hi,rfl⟩ (by simp only;omega) (Wk.temps ?_)
 (simp only[go_sem,qg,qc,qb,qf];try exact tT)
end RC
end
section
open Go Go.Proofs AF HY Go.ChangeShapes Go.RowKit
namespace LN
theorem OK : Tryz.prog.globalNamed "internal/strconv.uint64pow10" = some 1 := by kernel_rfl
theorem OM : Tryz.prog.globalNamed "strconv.ErrSyntax" = some 2 := by kernel_rfl
theorem OL : Tryz.prog.globalNamed "strconv.ErrRange" = some 3 := by kernel_rfl
theorem RD : Tryz.prog.globalNamed "apograph/transcript.forms" = some 4 := by kernel_rfl
theorem Vs{w w':World}(h:XT w)(e:w'.heap[1]? =w.heap[1]?):XT w':=by
 unfold XT Lib.TabIs at*;rw[dc OK e];exact h
theorem ir : "*" ++ "errors.errorString" = "*errors.errorString" := by decide
theorem XH (u : TypeId) (h : Tryz.prog.typeName? 3 u = some "*errors.errorString") : u = 427 :=
 typeName_ptr_named (nm := "errors.errorString") (by rw [ir]; kernel_rfl) (by kernel_rfl) (by decide) u (by rw [ir]; exact h)
structure Fr where
 s:List UInt8
 a:Bool
 b:Bool
 c:Bool
def Fr.av(r:Fr):JT:= [.str r.s,.bool r.a,.bool r.b,.bool r.c]
def Fr.vl(r:Fr):List Value:= [.string ⟨r.s.toArray⟩,.bool r.a,.bool r.b,.bool r.c]
def Fr.da{H:Type}(r:Fr):DataW H:= .agg [.lit (.string r.s),.lit (.bool r.a),.lit (.bool r.b),.lit (.bool r.c)]
def frL:List Fr:= [⟨[],false,false,false⟩,⟨[],true,false,false⟩,⟨[108,98],false,false,false⟩,⟨[112,98],true,false,false⟩,⟨[115,101,99],true,false,false⟩,⟨[118],false,false,false⟩,
 ⟨[103,97,112],false,true,false⟩,⟨[117,110,99,108,101,97,114],false,false,true⟩,⟨[97,100,100],false,true,true⟩,⟨[100,101,108],false,true,true⟩,⟨[97,98],true,false,true⟩,⟨[110,97,109,101],true,false,true⟩]
theorem H3:RC.frmC=frL.flatMap Fr.av:=rfl
theorem H4:(YtmieflnoheifbaaGreatDoor.Rows.laid_apograph_transcript_forms:DataW Unit)= .agg (frL.map Fr.da):=rfl
theorem Of{α β:Type}{f:α->List β}(hf: ∀a,(f a).length=4): ∀(l:List α) (i j:Nat),j<4->(l.flatMap f)[i*4+j]? =(l[i]?).bind λa=>(f a)[j]? :=by
 intro l
 induction l with
 |nil=>intro i j _;simp
 |cons a l ih=>
  intro i j hj;rw[List.flatMap_cons];cases i with
  |zero=>
   rw[Nat.zero_mul,Nat.zero_add,List.getElem?_append_left (by rw[hf];exact hj)];rfl
  |succ i=>
   rw[List.getElem?_append_right (by rw[hf];omega),hf,show (i+1)*4+j-4=i*4+j by omega,ih i j hj];rfl
theorem aS:Tryz.prog.cellsOf 414=4:=by kernel_rfl
theorem f7:Tryz.prog.cellsOf 415=48:=by kernel_rfl
theorem Jk:Tryz.prog.cellsOf 9=1:=by kernel_rfl
theorem Ji:Tryz.prog.cellsOf 4=1:=by kernel_rfl
theorem I1{H:Type}{enc:TypeId×Value->H}{w:World}{base fuel:Nat}{spare:Nat->Bool}{held:Bool}{cs:List Value}{x:DataW H×List MemPlace}{r:Fr}
  (h:DataW.trod enc Tryz.prog w base spare held fuel 414 cs=some x) (hx:x.1=r.da):cs=r.vl:=by
 obtain⟨xs,n,_,hxe,hl,hxl,hf⟩:=DataW.trod_struct Tryz.underlying414 h;rw[aS]at hl
 match cs,hl with
 | [v0,v1,v2,v3],_=>
 match xs,hxl with
 | [y0,y1,y2,y3],_=>
  have h0:DataW.trod enc Tryz.prog w base spare held n 9 (([v0,v1,v2,v3].drop 0).take (Tryz.prog.cellsOf 9))= [y0,y1,y2,y3][0]? :=hf 0 _ rfl;have h1:DataW.trod enc Tryz.prog w base spare held n 4 (([v0,v1,v2,v3].drop 1).take (Tryz.prog.cellsOf 4))= [y0,y1,y2,y3][1]? :=hf 1 _ rfl;have h2:DataW.trod enc Tryz.prog w base spare held n 4 (([v0,v1,v2,v3].drop 2).take (Tryz.prog.cellsOf 4))= [y0,y1,y2,y3][2]? :=hf 2 _ rfl;have h3:DataW.trod enc Tryz.prog w base spare held n 4 (([v0,v1,v2,v3].drop 3).take (Tryz.prog.cellsOf 4))= [y0,y1,y2,y3][3]? :=hf 3 _ rfl;rw[Jk]at h0;rw[Ji]at h1 h2 h3;obtain⟨s,e0,x0,_⟩:=DataW.trod_string Tryz.underlying9 h0;obtain⟨b1,e1,x1⟩:=DataW.trod_bool Tryz.underlying4 h1;obtain⟨b2,e2,x2⟩:=DataW.trod_bool Tryz.underlying4 h2;obtain⟨b3,e3,x3⟩:=DataW.trod_bool Tryz.underlying4 h3;have hy:([y0,y1,y2,y3]:List (DataW H×List MemPlace)).map (·.1)= [.lit (.string r.s),.lit (.bool r.a),.lit (.bool r.b),.lit (.bool r.c)]:=by
   have hx:=hxe▸hx;exact DataW.agg.inj hx
  rw[x0,x1,x2,x3]at hy;simp at hy e0 e1 e2 e3;obtain⟨g0,g1,g2,g3⟩:=hy;unfold Fr.vl;subst e0 e1 e2 e3;rw[<-g0,g1,g2,g3]
theorem OJ {W : World} {rest : List (String × DataW Unit)} (h : laidMet Tryz.prog (("apograph/transcript.forms", YtmieflnoheifbaaGreatDoor.Rows.laid_apograph_transcript_forms) :: rest) W) : mz 4 RC.frmC W := by
 obtain⟨ps,⟨g',t',cs,fuel,p,q,hg',ht',hvar,hd,_,_⟩,_⟩:=h;obtain rfl:=Option.some.inj (RD.symm.trans hg');obtain rfl:415=t':=Option.some.inj ((show (Tryz.prog.globals[4]?).map (·.type)=some 415 by kernel_rfl).symm.trans ht');obtain⟨xs,m,_,hxe,hl,hxl,hr⟩:=DataW.trod_array Tryz.underlying415 hd;rw[f7]at hl;have hxm:xs.map (·.1)=frL.map Fr.da:=by
  have:=congrArg Prod.fst hxe
  rw[H4]at this;exact (DataW.agg.inj this).symm
 have rows: ∀i r,frL[i]? =some r->(cs.toList.drop (i*4)).take 4=r.vl:=λi r hi=>by
  have hil:i<12:=(lgs.1 hi).1;have e1:(xs.map (·.1))[i]? =some r.da:=by rw[hxm,List.getElem?_map,hi];rfl
  rw[List.getElem?_map,Option.map_eq_some_iff]at e1;obtain⟨y,hy,hy1⟩:=e1;have h1:=hr i hil;rw[hy,aS]at h1;exact I1 h1 hy1
 have hv: ∃T fz,W.heap[4]? =some (.cells cs T fz):=by
  unfold World.var? at hvar;rw[RD]at hvar;simp only[Option.bind_some]at hvar;split at hvar
  ·rename_i c T fz hc;cases hvar;exact⟨_,_,hc⟩
  ·cases hvar
 obtain⟨T,fz,hc⟩:=hv;refine⟨cs,T,fz,hc,?_,?_⟩
 ·have:cs.size=48:=by simpa using hl
  rw[this];exact Nat.le_of_eq rfl
 intro i c x hi hx;have hij:i=i/4*4+i%4:=by omega
 rw[H3,hij,Of (λ_=>rfl) frL _ _ (Nat.mod_lt _ (by decide)),Option.bind_eq_some_iff]at hi;obtain⟨r,hr1,hr2⟩:=hi;have h2:=rows _ _ hr1;have h3:r.vl[i%4]? =some x:=by
  rw[<-h2,List.getElem?_take,ipo (Nat.mod_lt _ (by decide)),List.getElem?_drop,<-hij];simpa using hx
 have h4:i%4<4:=Nat.mod_lt _ (by decide);obtain⟨j,hj⟩:=Qt (i%4)
 rw[<-hj]at hr2 h3 h4
 match j,h4 with
 |0,_=>cases hr2;cases h3;exact⟨rfl,λ_ _=> .str⟩
 |1,_=>cases hr2;cases h3;exact⟨rfl,λ_ _=> .bool⟩
 |2,_=>cases hr2;cases h3;exact⟨rfl,λ_ _=> .bool⟩
 |3,_=>cases hr2;cases h3;exact⟨rfl,λ_ _=> .bool⟩
theorem Ag{w w':World}(h:mz 4 RC.frmC w)(e:w'.heap[4]? =w.heap[4]?):mz 4 RC.frmC w':=by
 obtain⟨arr,T,fz,h1,h2⟩:=h;exact⟨arr,T,fz,e.trans h1,h2⟩
def yq:List Nat:= [4,1,2,3]
def Lj(w:World):Prop:=RC.SG w∧mz 4 RC.frmC w
theorem Ll{W:World}(h:laidMet Tryz.prog YtmieflnoheifbaaGreatDoor.Rows.topFollowedRow.laid W):XT W∧M4 W∧mz 4 RC.frmC W:=by
 have h2:=laidMet.tail (laidMet.tail h);have h3:=laidMet.tail h2;have h4:=laidMet.tail h3;have h5:=laidMet.tail h4;obtain⟨a,s,e1,_⟩:=laid_sentinel (g:=3) (ti:=264) (tp:=427) (te:=429) (ts:=9) h3 OL (by kernel_rfl) Tryz.underlying264 XH Tryz.underlying427 Tryz.underlying429 rfl rfl Tryz.underlying9 (by kernel_rfl) (by kernel_rfl);obtain⟨b,t,e2,_⟩:=laid_sentinel (g:=2) (ti:=264) (tp:=427) (te:=429) (ts:=9) h4 OM (by kernel_rfl) Tryz.underlying264 XH Tryz.underlying427 Tryz.underlying429 rfl rfl Tryz.underlying9 (by kernel_rfl) (by kernel_rfl);exact⟨Lib.tabIs_of_head (t:=398) (e:=198) (n:=20) OK (by kernel_rfl) Tryz.underlying398 Tryz.underlying198 (by kernel_rfl) (by kernel_rfl) h2,⟨⟨_,_,e2⟩,_,_,e1⟩,OJ h5⟩
theorem VW{W:World}(h:laidMet Tryz.prog YtmieflnoheifbaaGreatDoor.Rows.topFollowedRow.laid W): ∀b,b∈yq-> ∃arr T fz,W.heap[b]? =some (.cells arr T fz):=by
 intro b hb;obtain⟨h1,⟨⟨_,_,h2⟩,_,_,h3⟩,arr,T,fz,h4,_⟩:=Ll h;have e:b=4∨b=1∨b=2∨b=3:=by simpa[yq] using hb
 rcases e with rfl|rfl|rfl|rfl
 ·exact⟨_,_,_,h4⟩
 ·exact au OK h1
 ·exact au OM h2
 ·exact au OL h3
theorem BZ{W:World}(h:laidMet Tryz.prog YtmieflnoheifbaaGreatDoor.Rows.topFollowedRow.laid W): ∀w':World,(∀b,b∈yq->w'.heap[b]? =W.heap[b]?)->Lj w':=by
 intro w' hs;obtain⟨h1,⟨⟨t1,p1,h2⟩,t2,p2,h3⟩,h4⟩:=Ll h;refine⟨⟨Vs h1 (hs 1 (by simp[yq])),⟨t1,p1,?_⟩,t2,p2,?_⟩,Ag h4 (hs 4 (by simp[yq]))⟩
 ·rw[dc OM (hs 2 (by simp[yq]))];exact h2
 ·rw[dc OL (hs 3 (by simp[yq]))];exact h3
theorem BY:kM RC.SG [.pin yq Lj]:=⟨0,_,_,rfl,λ_ h=>h.1⟩
theorem BW:jb [.pin yq Lj] RC.frmN RC.frmC:=⟨0,_,_,rfl,by simp[yq],λ_ h=>h.2⟩
end LN
end
