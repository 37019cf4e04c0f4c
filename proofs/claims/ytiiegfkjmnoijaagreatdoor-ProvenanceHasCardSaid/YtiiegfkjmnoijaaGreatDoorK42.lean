import Derived.Test.YtiiegfkjmnoijaaGreatDoorK32
import Derived.Test.YtiiegfkjmnoijaaGreatDoorK9
import Derived.Test.YtiiegfkjmnoijaaGreatDoorK3
import Derived.Test.YtiiegfkjmnoijaaGreatDoorK5
import Derived.Test.YtiiegfkjmnoijaaGreatDoorK8
import Derived.Test.YtiiegfkjmnoijaaGreatDoorProg
import Derived.Test.YtiiegfkjmnoijaaGreatDoorK18
import Derived.Test.YtiiegfkjmnoijaaGreatDoorK12
set_option linter.all false
set_option maxHeartbeats 256000000
set_option maxRecDepth 100000
section
open Go Go.Proofs AF HY LN
namespace RC
end RC
end
section
open Go Go.Proofs AF
end
section
open Go Go.Proofs AF HY LN
namespace RC
theorem qef(a:Int)(h:wh):ACalls Tryz.prog 157 [.int .i64 a] h (.bool false) h:=by
 have k:(a=a)=True:=eqt rfl;refine acO Lj ?_;simp (disch:=omega) only[Hl,go_sem]
 repeat' first|exact wc|fail
theorem qd8(x y:Int)(h:wh):ACalls Tryz.prog 112 [.int .i64 x,.int .i64 y] h (.bool (decide (x<y))) h:=by
 have c86:=λx h=>qef x h
 by_cases g:x<y
 ·have k1:(x<y)=True:=eqt g;rw[dqt g];refine acO YM ?_;simp (disch:=omega) only[A6,go_sem]
  repeat' first|(refine qj ((.bool false)) ?_;simp (disch:=omega) only[k1,go_sem])|(refine cA (c86 _ _) flk ?_;simp (disch:=omega) only[go_sem])|exact wc|fail
 ·have k1:(x<y)=False:=eqf g;rw[dqf g];refine acO YM ?_;simp (disch:=omega) only[A6,go_sem]
  repeat' first|(refine qj ((.bool false)) ?_;simp (disch:=omega) only[k1,go_sem])|(refine cA (c86 _ _) flk ?_;simp (disch:=omega) only[go_sem])|exact wc|fail
theorem qdX(L:List Int)(h:wh)(hl:L.length<=1000000)(hs:qaC L):ACalls Tryz.prog 58 [qw L] h (.bool true) h:=by
 have c52:=λx y h=>qd8 x y h
 refine acO qbr ?_;simp (disch:=omega) only[qcS,qw,go_sem];refine qt (T:=λi:Int=>zk 21 [(0,qw L),(3,.int .i64 i)]) (H:=λ_=>h) (inv:=λi=> -1<=i∧i<L.length) (m:=λi=>(i+1).toNat) ((L.length:Int)-1) ⟨om,om⟩ (Wk.temps ?_) ?_
 ·(simp only[qw,go_sem,qf,qc,qb,qe];try exact we)
 rintro i ⟨i1,i2⟩ K hK
 by_cases hi:0<i
 ·obtain⟨m,rfl⟩: ∃m:Nat,i=(m:Int)+1:=⟨(i-1).toNat,om⟩
  have q1:(0<(m:Int)+1)=True:=wr;have rt1:((m:Int)+1).toNat=m+1:=by omega
  have hd:decide (L.getD (m+1) 0<L.getD m 0)=false:=dqf (by have:=hs m om;omega);simp (disch:=omega) only[qw,q1,rt1,Int.add_sub_cancel,itn,go_sem]
  repeat' first|(refine cA (c52 _ _ _) flk ?_;simp (disch:=omega) only[Int.add_sub_cancel,hd,go_sem])|with_reducible apply aiA|exact clz|fail
  refine hK _ _ (m:Int) ⟨om,om⟩ om (Wk.temps ?_)
  (simp only[qw,go_sem,qf,qc,qb,qe];try exact we)
 ·have q1:(0<i)=False:=eqf hi;simp (disch:=omega) only[qw,q1,go_sem]
  repeat' first|exact wc|fail
theorem qdH{a b:List Str}{X:AV}{h:wh}(hv:xO ([strs a,X].map (rei (λ_=>true) h 8)) [strs a,strs b])(h1:a.length<=1000000000)(h2:b.length<=1000000000):
  ACalls Tryz.prog 36 [strs a,X] h (.bool (decide (a=b))) h:=
 ACalls.borrow ((qaq a b [] h1 h2).le hv (qi)) rfl
end RC
end
section
open Go Go.Proofs AF
def Df:List Nat:= []
def qaJ:C:=
 (vU [O1 3 (.box 0 26) 0,MC 6 (.bool false)] (vU [O1 22 (.load (some 4)) 3,MV 23 1,MV 24 2,ON 25 (.call 55 true) [.t 22,.t 23,.t 24],MV 21 25,O1 26 (.ext 0) 21,O1 27 (.ext 1)
 21,O1 28 (.ext 2) 21,O1 29 (.ext 3) 21,MV 7 26,MV 8 27,MV 9 28,MV 10 29] ((vU [MV 30 10,O1 31 (.un UnOp.not) 30] (vV 31 (vX [ON 32 (.call 56 true) [],MV 6 32]))).seq ((vU [MV
 33 8,O1 34 .len 33,vO 35 0] (C.block 0 (vU [BI 36 .lss 35 34] ((vW 36 0).seq ((C.block 1 (vU [MV 37 35,O2 38 (.idxA 7) 33 35,O1 39 (.load (some 7)) 38,⟨some 12,none,.alloc 1 36
 [.str [],i6 0,i6 0,i6 0,.bool false,.bool false,.str []],[]⟩,MV 11 37,ST 7 12 39] (vU [O1 41 (.load (some 4)) 3,MV 42 7,MV 43 8,MV 44 11,ON 45 (.call 19 true) [.t 41,.t 42,.t
 43,.t 44],MV 40 45,O1 46 (.ext 0) 40,O1 47 (.ext 1) 40,MV 13 46,MV 14 47] ((vU [MV 48 14,vP 49 .neq 48 0,MV 50 49,vS 51 50 13,vQ 52 50 (.call 58 true) 51,vQ 53 50 (.un
 UnOp.not) 52,PT 54 50 53] (vV 54 (vX [MC 6 (.bool false)]))).seq ((vU [vN 55 2 12,LD 56 55,vP 57 .lss 56 0] (vV 57 ((vU [MV 58 13,O1 59 .len 58,vN 60 1 3,LD 61 60,O1 62 .len
 61,BI 63 .neq 59 62] (vV 63 (vX [MC 6 (.bool false)]))).seq (C.exit 1)))).seq (vU [ON 15 (.nilo 2 1 9) []] ((vU [MV 64 8,O1 65 .len 64,vO 66 0] (C.block 2 (vU [BI 67 .lss 66
 65] ((vW 67 2).seq ((C.block 3 (vU [O2 68 (.idxA 7) 64 66,O1 69 (.load (some 7)) 68,⟨some 17,none,.alloc 3 36 [.str [],i6 0,i6 0,i6 0,.bool false,.bool false,.str []],[]⟩,ST 7
 17 69] (vU [vN 70 2 17,LD 71 70,vN 72 2 12,LD 73 72,BI 74 .eql 71 73] (vV 74 (vY [MV 75 15,vN 76 0 17,LD 77 76,⟨some 78,none,.bslc 4 1 1 9 [.str []] [(0,1)],[.t 77]⟩,O2 79
 (.app 5 1 9 16) 75 78,MV 15 79]))))).seq (vY [vP 80 .add 66 1,MV 66 80])))).loop)).seq (vU [vN 81 1 3,LD 82 81,O1 83 .len 82,vO 84 0] (C.block 4 (vU [BI 85 .lss 84 83] ((vW 85
 4).seq ((C.block 5 (vU [MV 86 84,MV 18 86] ((vU [vN 87 2 12,LD 88 87,MV 89 7,O1 90 .len 89,BI 91 .geq 88 90] (vV 91 (vX [MC 6 (.bool false)]))).seq (vU [MV 93 7,vN 94 2 12,LD
 95 94,O2 96 (.idxA 3) 93 95,O1 97 (.load (some 3)) 96,MV 98 18,O2 99 (.call 59 true) 97 98,MV 92 99,O1 100 (.ext 0) 92,O1 101 (.ext 1) 92,MV 19 100,MV 20 101] (vU [MV 102 20,vP
 103 .neq 102 0,MV 104 103,vS 105 104 19,vT 106 104 (.bin .lss) 105 (i6 0),PT 107 104 106,MV 108 107,vS 109 108 19,vS 110 108 7,v7 111 108 2 12,v8 112 108 111,vR 113 108 (.idxA
 3) 110 112,v7 114 108 2 113,v8 115 108 114,vQ 116 108 .len 115,vR 117 108 (.bin .geq) 109 116,PT 118 108 117,MV 119 118,vS 120 119 7,v7 121 119 2 12,v8 122 119 121,vR 123 119
 (.idxA 3) 120 122,v7 124 119 2 123,v8 125 119 124,vS 126 119 19,vR 127 119 (.idxA 2) 125 126,v7 128 119 0 127,v8 129 119 128,vS 130 119 15,vR 131 119 (.call 36 true) 129 130,vS
 132 119 13,vS 133 119 18,vR 134 119 (.call 21 true) 132 133,vR 135 119 (.bool true) 131 134,PT 136 119 135] (vV 136 (vX [MC 6 (.bool false)]))))))).seq (vY [vP 137 .add 84 1,MV
 84 137])))).loop))))))))).seq (vY [vP 138 .add 35 1,MV 35 138])))).loop)).seq (vX [ON 139 (.call 56 true) [],MV 6 139])))))
theorem IQ:qO Tryz.prog 10 140 6 [RV.tmp 6] qaJ:=fi Tryz.f10 [3,12,15,17,78,79] Df []
end
section
open Go Go.Proofs AF HY LN
namespace RC
theorem NN(x:Co)(d:List Dc)(q:Nat)(h:wh)(hq:q<=255)(hp:kS SG h)(hg:jf h frmN frmC)(h1:CoB x)(h2:d.length<=9223372036854775807):
  ACalls Tryz.prog 10 [.agg (coC x),jT d,.int .u8 (q:Int)] h (.bool true) h:=by
 have c1:=λl'=>B8 x d q (h++l') hq (hp.app l') hg.app h1 h2
 have c2:=λl'=>AX (h++l') (hp.app l')
 obtain⟨B,hB⟩:=wg (BS x d q)
 obtain⟨l,hl⟩:=wg (BU x d)
 obtain⟨b,hb⟩:=wg (BW x d q)
 obtain⟨nn,hnn⟩: ∃n,n=BV x d q:=⟨_,rfl⟩
 simp only[<-hB,<-hl,<-hb,<-hnn]at c1;unfold coC at c1;cases B with
 |false=>
  refine acO IQ ?_;simp (disch:=omega) only[qaJ,coC,go_sem]
  repeat' first|((first|refine cA (c1 _) ?_ ?_|refine cA (c2 _) ?_ ?_);exact flk;simp (disch:=omega) only[go_sem])|exact wa|with_reducible apply aiA|exact clz|fail
 |true=>
 obtain⟨o1,⟨o2,o3⟩,zu,d1,d2,d3,E,e1,e2,e3⟩:=B9 hB.symm;rw[<-hl]at e1;rw[<-hb]at e2;rw[<-hnn]at e3;obtain⟨m,hm⟩:=wg (nL x q)
 rw[<-hm]at E e2 e3;rw[<-e1]at E e2 zu;subst e3;have hsl:=E.sl;have ho:=E.co;have hln:=E.ln;have hlen:b.length=(rwA x l d m).length:=by rw[e2,jH]
 have hpv:=B7 E;have F:=λi (hi:i<(rwA x l d m).length)=>eZ E hi rfl
 rw[<-e2]at hpv F;have ht: ∀i,(b.getD i default).text.length<=1000000000:=ja b (λw=>w.text.length<=1000000000) (by decide) λi hi=>by have:=(F i om).2.1.2;omega
 have zb0:jl b= .sl b.length λi=>wdC (b.getD i default):=rfl
 have zb1: ∀g,valL g .len [jl b]= .int .i64 b.length:=λ_=>rfl
 have zb2: ∀g,okL g .len [jl b]=True:=λ_=>eqt trivial
 have zl1: ∀g,valL g .len [zH l]= .int .i64 l.length:=λ_=>rfl
 have zl2: ∀g,okL g .len [zH l]=True:=λ_=>eqt trivial
 have zs1: ∀g,valL g .len [strs x.sig]= .int .i64 x.sig.length:=λ_=>rfl
 have zs2: ∀g,okL g .len [strs x.sig]=True:=λ_=>eqt trivial
 have huo:=aA E.us;have hul:=λi (hi:i<b.length)=>(fo hpv hi).2
 have hag:=λa (ha:a<x.sig.length) k (hk:k<l.length)=>qay E ha hk
 rw[<-e2]at hag;refine acO IQ ?_;simp (disch:=omega) only[qaJ,coC,go_sem]
 repeat' first|(refine cA (c1 _) flk ?_;simp (disch:=omega) only[zb1,zb2,go_sem])|with_reducible apply aiA|exact clz|fail
 refine qt (T:=λi:Nat×AObj×AObj×AObj×AObj=>zk 140 [(3,.op h.length 1 0),(7,zH l),(8,jl b),(33,jl b),(34,.int .i64 b.length),(35,.int .i64 i.1)])
  (H:=λi=>h++ [.mem 1 26 (coC x),i.2.1,i.2.2.1,i.2.2.2.1,i.2.2.2.2,.emp 0])
  (inv:=λi=>i.1<=b.length∧qK [i.2.1] 0=true∧qK [i.2.2.1] 0=true∧qK [i.2.2.2.1] 0=true∧qK [i.2.2.2.2] 0=true) (m:=λi=>b.length-i.1) (0,.emp 0,.emp 0,.emp 0,.emp 0) ⟨nzl _,rfl,rfl,rfl,rfl⟩ (Wk.temps ?_) ?_
 ·(simp only[go_sem,qf,qc,qb,qe];try exact we)
 rintro⟨i,O1,O2,O3,O4⟩ ⟨i1,i2,i3,i4,i5⟩ K hK;simp only at i1 i2 i3 i4 i5 hK;have i2': ∀m,qK (O1::m) 0=true:=λ_=>i2
 have i3': ∀m,qK (O2::m) 0=true:=λ_=>i3
 by_cases hi:i<b.length
 case neg=>
  have k1:((i:Int)<b.length)=False:=wD;simp (disch:=omega) only[k1,go_sem]
  repeat' first|(refine cA (c2 _) flk ?_;simp (disch:=omega) only[go_sem])|exact wa|fail
 have k1:((i:Int)<b.length)=True:=wr;have c5:=λl'=>Ju x l b i (h++l') o1 zu om ht om (hp.app l')
 have eS:soE x l b i=0:=by unfold soE;rw[ine (by simp[hpv]),ine om]
 have eL:soL x l b i=soK x l b i:=by unfold soL;rw[ipo eS,itn]
 rw[eS,eL]at c5;obtain⟨sn1,sn2⟩:=Je hpv (i:=i) hi;have hasc:=OP (x:=x) (b:=b) (i:=i) E.us (hul i hi);have hsu:soK x l b i=if (b.getD i default).unit<0 then pd x.sig.length else hsK l b (b.getD i default).unit.toNat:=rfl
 have hul:=hul i hi;obtain⟨S,hS⟩:=wg (soK x l b i)
 rw[<-hS]at hasc hsu sn1;simp only[<-hS]at c5;have c6:=λh=>qdX S h om hasc
 have zS1: ∀g,valL g .len [qw S]= .int .i64 S.length:=λ_=>rfl
 have zS2: ∀g,okL g .len [qw S]=True:=λ_=>eqt trivial
 obtain⟨w,hw⟩:=wg (b.getD i default)
 have ew:=hw.symm;rw[ew]at hsu hul;unfold coC at c5
 by_cases hu0:w.unit<0
 ·have m1:(w.unit<0)=True:=eqt hu0;rw[ipo hu0]at hsu;have m2:((S.length:Int)=x.sig.length)=True:=eqt (by rw[hsu,aW]);simp (disch:=omega) only[zb0,wdC,coC,k1,ew,i2',go_sem]
  repeat' first|((first|refine cA (c5 _) ?_ ?_|refine cG (λe=>c6 _) ?_ ?_);exact flk;simp (disch:=omega) only[i3',m1,m2,zS1,zS2,zs1,zs2,go_sem])|with_reducible apply aiA|exact clz|fail
  refine hK _ _ (i+1,.mem (qn (some O1)+1) 36 (wdC w),O2,O3,O4) ⟨hi,rfl,i3,i4,i5⟩ (by simp only;omega) ?_;simp only[coC,wdC];refine Wk.temps ?_
  (simp only[go_sem,qf,qc,qb,qe];try exact we)
 have m1:(w.unit<0)=False:=eqf hu0;rw[ine hu0]at hsu;obtain⟨u,hu⟩: ∃u:Nat,w.unit=(u:Int):=⟨w.unit.toNat,om⟩
 rw[hu,itn]at hsu;have hul:u<l.length:=by omega
 simp (disch:=omega) only[zb0,wdC,coC,k1,ew,i2',go_sem]
 repeat' first|((first|refine cA (c5 _) ?_ ?_|refine cG (λe=>c6 _) ?_ ?_);exact flk;simp (disch:=omega) only[i3',m1,go_sem])|with_reducible apply aiA|exact clz|fail
 refine qt (T:=λn:Nat×Nat×AObj×AObj=>zk 140 [(3,.op h.length 1 0),(7,zH l),(8,jl b),(12,.op (h.length+1) (qn (some O1)+1) 0),(13,qw S),(15,.osl (h.length+2) n.2.1 1 0 (owG b (u:Int) n.1).length),(33,jl b),(34,.int .i64 b.length),(35,.int .i64 i),(64,jl b),(65,.int .i64 b.length),(66,.int .i64 n.1)])
  (H:=λn=>h++ [.mem 1 26 (coC x),.mem (qn (some O1)+1) 36 (wdC w),zz n.2.1 9 (jF (owG b (u:Int) n.1)),n.2.2.1,n.2.2.2,.emp 0])
  (inv:=λn=>n.1<=b.length∧qK [n.2.2.1] 0=true∧qK [n.2.2.2] 0=true) (m:=λn=>b.length-n.1) (0,qn (some O2)+1,O3,O4) ⟨nzl _,i4,i5⟩ (Wk.temps ?_) ?_
 ·(simp only[owG,go_sem,qf,qc,qb,qe];try exact we)
 rintro⟨n,v,P1,P2⟩ ⟨n1,n2,n3⟩ K2 hK2;simp only at n1 n2 n3 hK2;have n2': ∀m,qK (P1::m) 0=true:=λ_=>n2
 have n3': ∀m,qK (P2::m) 0=true:=λ_=>n3
 have hol:=Am b (u:Int) n
 by_cases hn:n<b.length
 ·have r1:((n:Int)<b.length)=True:=wr;have hW:owG b (u:Int) (n+1)=owG b (u:Int) n++if (b.getD n default).unit=(u:Int) then [(b.getD n default).text] else []:=rfl
  obtain⟨L,hL⟩:=wg (owG b (u:Int) n)
  rw[<-hL]at hW hol ⊢;obtain⟨y,hy⟩:=wg (b.getD n default)
  have ey:=hy.symm;rw[ey]at hW;have eC:=jG L;have eTk:List.take L.length (jF L)=jF L:=ltl om
  by_cases g:y.unit=(u:Int)
  ·have r2:(y.unit=(u:Int))=True:=eqt g;rw[ipo g]at hW;simp (disch:=omega) only[zb0,wdC,r1,ey,hu,n2',n3',r2,eC,eTk,Nat.mul_one,go_sem]
   repeat' first|with_reducible apply aiA|exact clz|fail
   have eA:jF L++ [AV.str y.text]=jF (L++ [y.text]):=by simp[jF]
   try rw[eA]
   refine hK2 _ _ (n+1,v+1,.mem (qn (some P1)+1) 36 (wdC y),.mem (qn (some P2)+1) 9 [.str y.text]) ⟨hn,rfl,rfl⟩ (by simp only;omega) ?_;simp only[hW,coC,wdC,hu,lap,lco,lnl];refine Wk.temps ?_
   (simp only[go_sem,qf,qc,qb,qe];try exact we)
  ·have r2:(y.unit=(u:Int))=False:=eqf g;rw[ine g,lan]at hW;simp (disch:=omega) only[zb0,wdC,r1,ey,hu,n2',n3',r2,go_sem]
   repeat' first|with_reducible apply aiA|exact clz|fail
   refine hK2 _ _ (n+1,v,.mem (qn (some P1)+1) 36 (wdC y),P2) ⟨hn,rfl,n3⟩ (by simp only;omega) ?_;simp only[hW,coC,wdC,hu];refine Wk.temps ?_
   (simp only[go_sem,qf,qc,qb,qe];try exact we)
 have r1:((n:Int)<b.length)=False:=wD;obtain rfl:n=b.length:=by omega
 clear hK2;have hagu:=λa ha=>hag a ha u hul
 have hgd: ∀a:Nat,agB l b (a:Int) u=decide (((l.getD u default).rds.getD (cX (l.getD u default).rds a).toNat default).words=owG b (u:Int) b.length):=λ_=>rfl
 obtain⟨W,hW⟩:=wg (owG b (u:Int) b.length)
 rw[<-hW]at hol ⊢;simp only[<-hW]at hgd;simp (disch:=omega) only[r1,coC,zs1,zs2,go_sem];refine qt (T:=λk:Nat=>zk 140 [(3,.op h.length 1 0),(7,zH l),(8,jl b),(12,.op (h.length+1) (qn (some O1)+1) 0),(13,qw S),(15,.osl (h.length+2) v 1 0 W.length),(33,jl b),(34,.int .i64 b.length),(35,.int .i64 i),(83,.int .i64 x.sig.length),(84,.int .i64 k)])
  (H:=λk=>h++ [.mem 1 26 (coC x),.mem (qn (some O1)+1) 36 (wdC w),zz v 9 (jF W),P1,P2,.emp 0])
  (inv:=λk=>k<=x.sig.length) (m:=λk=>x.sig.length-k) 0 (nzl _) (Wk.temps ?_) ?_
 ·(simp only[go_sem,qf,qc,qb,qe];try exact we)
 intro k k2 K3 hK3
 by_cases hk:k<x.sig.length
 case neg=>
  have p1:((k:Int)<x.sig.length)=False:=wD;simp (disch:=omega) only[p1,go_sem];refine hK _ _ (i+1,.mem (qn (some O1)+1) 36 (wdC w),zz v 9 (jF W),P1,P2) ⟨hi,rfl,site_own0,n2,n3⟩ (by simp only;omega) ?_;simp only[coC,wdC];refine Wk.temps ?_
  (simp only[go_sem,qf,qc,qb,qe];try exact we)
 have p1:((k:Int)<x.sig.length)=True:=wr;have p2:(0<=(u:Int))=True:=wr;have p3:((u:Int)<l.length)=True:=wr;have p4:((l.length:Int)<=u)=False:=wD;obtain⟨q1,q2,q3,q4⟩:=Xj huo hul (s:=(k:Int)) om om;have c8:=λh=>qej (l.getD u default) (k:Int) h (zu.rd u) (zu.sr u)
 have hE0:Xi (l.getD u default).rds (k:Int)=0:=by unfold Xi;rw[ine om]
 have hwl:=zu.wd u (cX (l.getD u default).rds (k:Int)).toNat;have hA:=hgd k;rw[hagu k hk,<-hsu]at hA;rw[q3]at hA hwl;obtain⟨j,hj⟩: ∃j:Nat,iS (l.getD u default).rds (k:Int)=(j:Int):=⟨(iS (l.getD u default).rds (k:Int)).toNat,om⟩
 rw[hj]at q1 q2 q3;rw[hj,itn]at hA hwl;simp only[q3,hE0]at c8;have c9:=λh=>Ix S (k:Int) h om
 obtain⟨un,hun⟩: ∃v,v=l.getD u default:=⟨_,rfl⟩
 have eun:=hun.symm;simp only[eun]at c8;rw[eun]at hA hwl q2;have zu0:zH l= .sl l.length λi=>unC (l.getD i default):=rfl
 have zr0:jY un.rds= .sl un.rds.length λi=>rdC (un.rds.getD i default):=rfl
 have p5:((j:Int)<0)=False:=wD;have p6:((un.rds.length:Int)<=j)=False:=wD;have p7:((j:Int)<un.rds.length)=True:=wr;have p8:(0<=(j:Int))=True:=wr;obtain⟨r,hr⟩:=wg (un.rds.getD j default)
 have er:=hr.symm;rw[er]at hA hwl;have zu1: ∀g,valL g .len [jY un.rds]= .int .i64 un.rds.length:=λ_=>rfl
 have zu2: ∀g,okL g .len [jY un.rds]=True:=λ_=>eqt trivial
 have c10: ∀ {X:AV} {h:wh},xO ([strs r.words,X].map (rei (λ_=>true) h 8)) [strs r.words,strs W]->ACalls Tryz.prog 36 [strs r.words,X] h (.bool (decide (r.words=W))) h:=λhv=>qdH hv om om
 rw[<-hA]at c10;unfold unC at c8;obtain⟨B2,hB2⟩: ∃B,B=decide ((k:Int)∈S):=⟨_,rfl⟩
 rw[<-hB2]at c10;simp only[<-hB2]at c9;cases B2 with
 |true=>
  simp (disch:=omega) only[zu0,unC,wdC,hu,p1,p2,p3,p4,eun,go_sem]
  repeat' first|(refine cA (c8 _) flk ?_;simp (disch:=omega) only[rdC,p2,p3,p5,p6,p7,p8,eun,er,zr0,go_sem])|with_reducible apply aiA|exact clz|fail
  refine cG (λ_=>c10 ?v1) (λ_=>by exact flk) ?_
  case v1=>
   simp only[List.map_cons,List.map_nil,rei_osl,if_true,go_sem];exact⟨qi,yG (λ_=>rfl) rfl,trivial⟩
  simp (disch:=omega) only[zl1,zl2,unC,wdC,p1,p2,p3,p4,go_sem]
  repeat' first|(refine cG (λe=>c9 _) flk ?_;simp (disch:=omega) only[go_sem])
  refine hK3 _ _ (k+1) hk om ?_;simp only[coC,wdC,hu];refine Wk.temps ?_
  (simp only[zu0,unC,go_sem,qf,qc,qb,qe];try exact we)
 |false=>
  simp (disch:=omega) only[zu0,unC,wdC,hu,p1,p2,p3,p4,eun,go_sem]
  repeat' first|(refine cA (c8 _) flk ?_;simp (disch:=omega) only[rdC,p2,p3,p5,p6,p7,p8,eun,er,zr0,go_sem])|with_reducible apply aiA|exact clz|fail
  refine cG (λ_=>c10 ?v2) (λ_=>by exact flk) ?_
  case v2=>
   simp only[List.map_cons,List.map_nil,rei_osl,if_true,go_sem];exact⟨qi,yG (λ_=>rfl) rfl,trivial⟩
  simp (disch:=omega) only[zl1,zl2,unC,wdC,p1,p2,p3,p4,go_sem]
  repeat' first|(refine cG (λe=>c9 _) flk ?_;simp (disch:=omega) only[go_sem])
  refine hK3 _ _ (k+1) hk om ?_;simp only[coC,wdC,hu];refine Wk.temps ?_
  (simp only[zu0,unC,go_sem,qf,qc,qb,qe];try exact we)
end RC
end
