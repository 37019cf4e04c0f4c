import Derived.Test.YtiiegfkjmnoijaaGreatDoorK3
import Derived.Test.YtiiegfkjmnoijaaGreatDoorK5
import Derived.Test.YtiiegfkjmnoijaaGreatDoorK8
import Derived.Test.YtiiegfkjmnoijaaGreatDoorProg
import Derived.Test.YtiiegfkjmnoijaaGreatDoorK19
set_option linter.all false
set_option maxRecDepth 100000
section
open Go Go.Proofs AF
def qt0:List Nat:= []
def qDJ:C:=
 (vU [O1 3 (.box 0 26) 0,MC 6 (.bool false)] (vU [O1 18 (.load (some 4)) 3,MV 19 1,MV 20 2,ON 21 (.call 55 true) [.t 18,.t 19,.t 20],MV 17 21,O1 22 (.ext 0) 17,O1 23 (.ext 1)
 17,O1 24 (.ext 2) 17,O1 25 (.ext 3) 17,MV 7 22,MV 8 23,MV 9 24,MV 10 25] ((vU [MV 26 10,O1 27 (.un UnOp.not) 26] (vV 27 (vX [ON 28 (.call 56 true) [],MV 6 28]))).seq (vU [O1 30
 (.load (some 4)) 3,MV 31 7,MV 32 8,ON 33 (.call 66 true) [.t 30,.t 31,.t 32],MV 29 33,O1 34 (.ext 0) 29,O1 35 (.ext 1) 29,MV 11 34,MV 12 35] ((vU [MV 36 12,vP 37 .neq 36 0] (vV
 37 (vX [MC 6 (.bool false)]))).seq ((vU [MV 38 8,O1 39 .len 38,vO 40 0] (C.block 0 (vU [BI 41 .lss 40 39] ((vW 41 0).seq ((C.block 1 (vU [MV 42 40,O2 43 (.idxA 7) 38 40,O1 44
 (.load (some 7)) 43,⟨some 14,none,.alloc 1 36 [.str [],i6 0,i6 0,i6 0,.bool false,.bool false,.str []],[]⟩,MV 13 42,ST 7 14 44] (vU [O1 46 (.load (some 4)) 3,MV 47 7,MV 48 8,MV
 49 13,ON 50 (.call 19 true) [.t 46,.t 47,.t 48,.t 49],MV 45 50,O1 51 (.ext 0) 45,O1 52 (.ext 1) 45,MV 15 51,MV 16 52] (vU [MV 53 16,vP 54 .neq 53 0,MV 55 54,vS 56 55 11,vS 57
 55 13,vR 58 55 (.call 21 true) 56 57,vS 59 55 15,vQ 60 55 .len 59,vT 61 55 (.bin .eql) 60 (i6 0),vR 62 55 (.bool true) 58 61,PT 63 55 62,MV 64 63,v7 65 64 3 14,v8 66 64 65,vT
 67 64 (.bin .lss) 66 (i6 0),vS 68 64 67,MG 69 68 true 15,MG 70 68 true 9,P2 71 68 true (.call 21 true) 69 70,P1 72 68 true (.un UnOp.not) 71,QF 73 64 false 68 72,PT 74 64 73]
 (vV 74 (vX [MC 6 (.bool false)])))))).seq (vY [vP 75 .add 40 1,MV 40 75])))).loop)).seq (vX [MV 76 1,O1 77 .len 76,vP 78 .gtr 77 0,MV 79 78,vS 80 79 11,vQ 81 79 .len 80,vT 82
 79 (.bin .eql) 81 (i6 0),PT 83 79 82,MV 84 83,PN 85 84 true (.call 56 true) [],PF 86 84 85,MV 6 86])))))))
theorem qzJ:qP Tryz.prog 14 87 2 [RV.tmp 6] qDJ:=fi Tryz.f14 [3,14] qt0 []
end
section
open Go Go.Proofs AF HY LN
namespace RC
set_option maxHeartbeats 64000000
theorem qBr(x:Co)(d:List Dc)(q:Nat)(h:wh)(hq:q<=255)(hp:kv SG h)(hg:jj h frmN frmC)(h1:CoB x)(h2:d.length<=9223372036854775807):
  ACalls Tryz.prog 14 [.agg (coC x),jO d,.int .u8 (q:Int)] h (.bool true) h:=by
 have c1:=λl'=>qtn x d q (h++l') hq (hp.app l') hg.app h1 h2
 have c2:=λl'=>qsv (h++l') (hp.app l')
 obtain⟨B,hB⟩:=wg (qtb x d q)
 obtain⟨l,hl⟩:=wg (qtc x d)
 obtain⟨b,hb⟩:=wg (qte x d q)
 obtain⟨nn,hnn⟩: ∃n,n=qtd x d q:=⟨_,rfl⟩
 simp only[<-hB,<-hl,<-hb,<-hnn]at c1;unfold coC at c1;cases B with
 |false=>
  refine acO qzJ ?_;simp (disch:=omega) only[qDJ,coC,go_sem]
  repeat' first|((first|refine cA (c1 _) ?_ ?_|refine cA (c2 _) ?_ ?_);exact flk;simp (disch:=omega) only[go_sem])|exact wa|with_reducible apply aiA|exact clz|fail
 |true=>
 obtain⟨o1,⟨o2,o3⟩,zu,d1,d2,d3,E,e1,e2,e3⟩:=qto hB.symm;rw[<-hl]at e1;rw[<-hb]at e2;rw[<-hnn]at e3;obtain⟨m,hm⟩:=wg (nL x q)
 rw[<-hm]at E e2 e3;rw[<-e1]at E e2 zu;subst e3;have hsl:=E.sl;have ho:=E.co;have hln:=E.ln;have hlen:b.length=(rwA x l d m).length:=by rw[e2,jK]
 have hpv:=qtm E;have F:=λi (hi:i<(rwA x l d m).length)=>qcO E hi rfl
 rw[<-e2]at hpv F;have ht: ∀i,(b.getD i default).text.length<=1000000000:=je b (λw=>w.text.length<=1000000000) (by decide) λi hi=>by have:=(F i om).2.1.2;omega
 have zb0:jd b= .sl b.length λi=>wdC (b.getD i default):=rfl
 have zb1: ∀g,valL g .len [jd b]= .int .i64 b.length:=λ_=>rfl
 have zb2: ∀g,okL g .len [jd b]=True:=λ_=>eqt trivial
 have zl1: ∀g,valL g .len [zn l]= .int .i64 l.length:=λ_=>rfl
 have zl2: ∀g,okL g .len [zn l]=True:=λ_=>eqt trivial
 have zs1: ∀g,valL g .len [strs x.sig]= .int .i64 x.sig.length:=λ_=>rfl
 have zs2: ∀g,okL g .len [strs x.sig]=True:=λ_=>eqt trivial
 have bd: ∀i,i<b.length->(b.getD i default).dec=((rwA x l d m).getD i default).d:=λi hi=>by rw[e2];exact qrm om
 have FW:=λi (hi:i<(rwA x l d m).length)=>(qkr E hi).1
 rw[<-e2]at FW;have hbd:=qvB l b;have c3:=λl'=>qCu x l b (h++l') o1 zu om ht om (hp.app l')
 simp only[qCs]at c3;simp only[hpv]at c3;have hum:=λi (hi:i<b.length)=>qCt hpv hi
 have hun:d= []->unK x l b= []:=λe=>by subst e;rw[e2];exact qvA E (by rw[<-e2];exact hpv)
 have hul:(unK x l b).length<=b.length:=by unfold unK;rw[ipo hpv];exact qgu _ _
 obtain⟨U,hU⟩:=wg (unK x l b)
 simp only[<-hU]at c3 hum hun hul;have zd1: ∀g,valL g .len [jO d]= .int .i64 d.length:=λ_=>rfl
 have zd2: ∀g,okL g .len [jO d]=True:=λ_=>eqt trivial
 have zU1: ∀g,valL g .len [qw U]= .int .i64 U.length:=λ_=>rfl
 have zU2: ∀g,okL g .len [qw U]=True:=λ_=>eqt trivial
 unfold coC at c3;refine acO qzJ ?_;simp (disch:=omega) only[qDJ,coC,go_sem]
 repeat' first|((first|refine cA (c1 _) ?_ ?_|refine cA (c3 _) ?_ ?_);exact flk;simp (disch:=omega) only[zb1,zb2,go_sem])|with_reducible apply aiA|exact clz|fail
 refine qt (T:=λi:Nat×AObj=>zw 87 [(1,jO d),(3,.op h.length 1 0),(7,zn l),(8,jd b),(9,.int .i64 (m:Int)),(11,qw U),(38,jd b),(39,.int .i64 b.length),(40,.int .i64 i.1)])
  (H:=λi=>h++ [.mem 1 26 (coC x),i.2])
  (inv:=λi=>i.1<=b.length∧qK [i.2] 0=true) (m:=λi=>b.length-i.1) (0,.emp 0) ⟨nzl _,rfl⟩ (Wk.temps ?_) ?_
 ·(simp only[go_sem,qf,qc,qb,qe];try exact we)
 rintro⟨i,O⟩ ⟨i1,i2⟩ K hK;simp only at i1 i2 hK;have i2': ∀m,qK (O::m) 0=true:=λ_=>i2
 by_cases hi:i<b.length
 case neg=>
  have k1:((i:Int)<b.length)=False:=wm
  by_cases g2:d.length=0
  ·have m2:((0:Int)<d.length)=False:=wm;have m3:((U.length:Int)=0)=True:=eqt (by rw[hun (List.eq_nil_of_length_eq_zero g2)];rfl);simp (disch:=omega) only[k1,m2,m3,zd1,zd2,zU1,zU2,go_sem]
   repeat' first|(refine cG (λe=>c2 _) flk ?_;simp (disch:=omega) only[go_sem])|exact wa|fail
  ·have m2:((0:Int)<d.length)=True:=wj;simp (disch:=omega) only[k1,m2,zd1,zd2,zU1,zU2,go_sem]
   repeat' first|(refine cG (λe=>c2 _) flk ?_;simp (disch:=omega) only[go_sem])|exact wa|fail
 have k1:((i:Int)<b.length)=True:=wj;have c5:=λl'=>qfF x l b i (h++l') o1 zu om ht om (hp.app l')
 have eS:soE x l b i=0:=by unfold soE;rw[ine (by simp[hpv]),ine om]
 have eL:soL x l b i=soK x l b i:=by unfold soL;rw[ipo eS,itn]
 rw[eS,eL]at c5;obtain⟨sn1,sn2⟩:=qfy hpv (i:=i) hi;have hum:=hum i hi;have fw:=FW i om;rw[<-bd i hi]at fw;obtain⟨S,hS⟩:=wg (soK x l b i)
 rw[<-hS]at hum sn1 fw;simp only[<-hS]at c5;have c6:=λh=>qs1 U (i:Int) h om
 have zS1: ∀g,valL g .len [qw S]= .int .i64 S.length:=λ_=>rfl
 have zS2: ∀g,okL g .len [qw S]=True:=λ_=>eqt trivial
 have hdu:decide ((i:Int)∈U)=decide ((S.length:Int)=0):=decide_eq_decide.2 (by
  rw[hum];constructor
  ·intro e;rw[e];rfl
  ·intro e;exact List.eq_nil_of_length_eq_zero om)
 rw[hdu]at c6;obtain⟨w,hw⟩:=wg (b.getD i default)
 have ew:=hw.symm;rw[ew]at fw;unfold coC at c5
 by_cases g:(S.length:Int)=0
 ·have m0:((S.length:Int)=0)=True:=eqt g;rw[dqt g]at c6;have g3: ¬w.dec<0:=λe=>by
   have:=fw e
   rw[List.eq_nil_of_length_eq_zero (show S.length=0 by omega)]at this;cases this
  have m1:(w.dec<0)=False:=eqf g3;simp (disch:=omega) only[zb0,wdC,coC,k1,ew,i2',go_sem]
  repeat' first|(refine qj ( .bool false) ?_;simp (disch:=omega) only[go_sem])|((first|refine cA (c5 _) ?_ ?_|refine cG (λe=>c6 _) ?_ ?_);exact flk;simp (disch:=omega) only[m0,m1,zS1,zS2,go_sem])|with_reducible apply aiA|exact clz|fail
  refine hK _ _ (i+1,.mem (qn (some O)+1) 36 (wdC w)) ⟨hi,rfl⟩ (by simp only;omega) ?_;simp only[coC,wdC];refine Wk.temps ?_
  (simp only[go_sem,qf,qc,qb,qe];try exact we)
 have m0:((S.length:Int)=0)=False:=eqf g;rw[dqf g]at c6
 by_cases g3:w.dec<0
 ·have m1:(w.dec<0)=True:=eqt g3;have c7:=λh=>qs1 S (m:Int) h om
  rw[dqt (fw g3)]at c7;simp (disch:=omega) only[zb0,wdC,coC,k1,ew,i2',go_sem]
  repeat' first|((first|refine cA (c5 _) ?_ ?_|refine cG (λe=>c6 _) ?_ ?_|refine cG (λe=>c7 _) ?_ ?_);exact flk;simp (disch:=omega) only[m0,m1,zS1,zS2,go_sem])|with_reducible apply aiA|exact clz|fail
  refine hK _ _ (i+1,.mem (qn (some O)+1) 36 (wdC w)) ⟨hi,rfl⟩ (by simp only;omega) ?_;simp only[coC,wdC];refine Wk.temps ?_
  (simp only[go_sem,qf,qc,qb,qe];try exact we)
 ·have m1:(w.dec<0)=False:=eqf g3;simp (disch:=omega) only[zb0,wdC,coC,k1,ew,i2',go_sem]
  repeat' first|(refine qj ( .bool false) ?_;simp (disch:=omega) only[go_sem])|((first|refine cA (c5 _) ?_ ?_|refine cG (λe=>c6 _) ?_ ?_);exact flk;simp (disch:=omega) only[m0,m1,zS1,zS2,go_sem])|with_reducible apply aiA|exact clz|fail
  refine hK _ _ (i+1,.mem (qn (some O)+1) 36 (wdC w)) ⟨hi,rfl⟩ (by simp only;omega) ?_;simp only[coC,wdC];refine Wk.temps ?_
  (simp only[go_sem,qf,qc,qb,qe];try exact we)
end RC
end
