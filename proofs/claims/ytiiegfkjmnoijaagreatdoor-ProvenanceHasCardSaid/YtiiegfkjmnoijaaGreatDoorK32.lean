import Derived.Test.YtiiegfkjmnoijaaGreatDoorK18
import Derived.Test.YtiiegfkjmnoijaaGreatDoorK17
import Derived.Test.YtiiegfkjmnoijaaGreatDoorK3
import Derived.Test.YtiiegfkjmnoijaaGreatDoorK5
import Derived.Test.YtiiegfkjmnoijaaGreatDoorK8
import Derived.Test.YtiiegfkjmnoijaaGreatDoorProg
set_option linter.all false
set_option maxHeartbeats 256000000
set_option maxRecDepth 100000
section
open Go Go.Proofs AF HY LN
namespace RC
def qaC(L:List Int):Prop:= ∀j,j+1<L.length->L.getD j 0<=L.getD (j+1) 0
theorem GI{L:List Int}(h:L.Pairwise (· < ·)):qaC L:=λj hj=>by
 rw[gdqA,gdqA,zB om,zB hj]
 have:=List.pairwise_iff_getElem.1 h j (j+1) om hj om
 simp only[Option.getD_some];omega
theorem AO(n:Nat):(pd n).Pairwise (· < ·):=by
 unfold pd;rw[List.pairwise_map];exact List.Pairwise.imp (λh=>by omega) List.pairwise_lt_range
theorem OP{x:Co}{l:List Un}{b:List Wd}{i:Nat}(h:yb x l=true)(hu:(b.getD i default).unit<(l.length:Int)):qaC (soK x l b i):=by
 refine GI ?_;unfold soK;split
 ·exact AO _
 ·rename_i g;unfold hsK;split
  ·obtain⟨_,_,_,_,e⟩:=j9 h (k:=(b.getD i default).unit.toNat) om;have hlt:=d6 l b (b.getD i default).unit.toNat;have hri:dV (l.getD (b.getD i default).unit.toNat default).rds x.sig.length:=by rw[e];exact yz _ _ _
   exact (hri.src _ (Qz om)).1
  ·exact List.Pairwise.nil
theorem qay{x:Co}{l:List Un}{d:List Dc}{s:Nat}(h:yP x l d s){a:Nat}(ha:a<x.sig.length){k:Nat}(hk:k<l.length):
  agB l (bsW (rwA x l d s)) a k=decide ((a:Int)∈hsK l (bsW (rwA x l d s)) k):=by
 rw[Gx h ha hk];exact decide_eq_decide.2 (by rw[CX h.us hk ha,An h hk];exact eq_comm)
theorem WB{x:Co}{l:List Un}{d:List Dc}{s:Nat}(h:yP x l d s): ∀r∈rwA x l d s,r.d<0-> ∃c:Nat,c<x.col.length∧r.p=pcT x s c∧pcB x s c=true:=by
 have hc: ∀f t,t<=x.col.length-> ∀r∈rwC x s f t,∃c:Nat,c<x.col.length∧r.p=pcT x s c∧pcB x s c=true:=by
  intro f t ht r hr;unfold rwC at hr;obtain⟨h1,_⟩:=jb.1 hr;obtain⟨c,c1,c2,c3,c4⟩:=b9.1 h1;exact⟨c,om,c4,c3⟩
 have hl: ∀k,k<=l.length-> ∀r∈rwL x l d s k,r.d<0-> ∃c:Nat,c<x.col.length∧r.p=pcT x s c∧pcB x s c=true:=by
  intro k
  induction k with
  |zero=>intro _ r hr;cases hr
  |succ k ih=>
   intro hk r hr hd;obtain⟨_,_,u3,u4,_⟩:=j9 h.us (k:=k) om;unfold rwL at hr;rcases List.mem_append.1 hr with hr|hr
   ·exact ih om r hr hd
   rcases List.mem_append.1 hr with hr|hr
   ·exact hc _ _ om r hr
   ·unfold rwU at hr;split at hr
    ·obtain⟨h1,_⟩:=jb.1 hr;obtain⟨c,c1,c2,c3,c4⟩:=b9.1 h1;exact⟨c,om,c4,c3⟩
    ·rename_i g;obtain⟨_,_,h3⟩:=jb.1 hr;omega
 intro r hr hd;unfold rwA at hr;rcases List.mem_append.1 hr with hr|hr
 ·exact hl _ (nlr _) r hr hd
 ·exact hc _ _ (nlr _) r hr
theorem od{x:Co}{b:List Wd}{i t c:Nat}(hx:coE x=0)(hi:i<b.length)(ht:t<x.sig.length)(hc:(b.getD i default).col=(c:Int))(hcl:c<x.col.length):
  poE x b (i:Int) (t:Int)=if (x.col.getD c []).getD t 0<0∨((x.tok.getD t []).getD ((x.col.getD c []).getD t 0).toNat default).text≠(b.getD i default).text then 6 else 0:=by
 unfold poE poK;rw[ine (λe=>e hx),ine om];simp only[itn,hc];rw[ine om]
theorem Ed{x:Co}{l:List Un}{d:List Dc}{s:Nat}(h:yP x l d s){i:Nat}(hi:i<(rwA x l d s).length)(hd:((rwA x l d s).getD i default).d<0):
  poE x (bsW (rwA x l d s)) (i:Int) (s:Int)=0:=by
 obtain⟨c,c1,c2,c3⟩:=WB h _ (zX (a:=default) hi) hd;have hcol:((bsW (rwA x l d s)).getD i default).col=(c:Int):=by rw[ua hi,c2];rfl
 have htx:=lV hi;rw[c2]at htx;rw[od h.ca (by rw[jH];exact hi) h.sl hcol c1,htx,ine];rintro (g|g)
 ·unfold pcB at c3
  have:=of_decide_eq_true c3
  omega
 ·exact g rfl
end RC
end
section
open Go Go.Proofs AF
def Db:List Nat:= []
def c9s:C:=
 (vU [O1 3 (.box 0 26) 0,MC 6 (.bool false)] (vU [O1 20 (.load (some 4)) 3,MV 21 1,MV 22 2,ON 23 (.call 55 true) [.t 20,.t 21,.t 22],MV 19 23,O1 24 (.ext 0) 19,O1 25 (.ext 1)
 19,O1 26 (.ext 2) 19,O1 27 (.ext 3) 19,MV 7 24,MV 8 25,MV 9 26,MV 10 27] ((vU [MV 28 10,O1 29 (.un UnOp.not) 28] (vV 29 (vX [ON 30 (.call 56 true) [],MV 6 30]))).seq ((vU [MV
 31 8,O1 32 .len 31,vO 33 0] (C.block 0 (vU [BI 34 .lss 33 32] ((vW 34 0).seq ((C.block 1 (vU [MV 35 33,O2 36 (.idxA 7) 31 33,O1 37 (.load (some 7)) 36,⟨some 12,none,.alloc 1 36
 [.str [],i6 0,i6 0,i6 0,.bool false,.bool false,.str []],[]⟩,MV 11 35,ST 7 12 37] ((vU [vN 38 1 12,LD 39 38,vP 40 .lss 39 0,MV 41 40,v7 42 41 1 12,v8 43 41 42,v7 44 41 3 3,v8
 45 41 44,vQ 46 41 .len 45,vR 47 41 (.bin .geq) 43 46,PT 48 41 47] (vV 48 (vX [MC 6 (.bool false)]))).seq ((vU [vN 49 1 3,LD 50 49,O1 51 .len 50,vO 52 0] (C.block 2 (vU [BI 53
 .lss 52 51] ((vW 53 2).seq ((C.block 3 (vU [MV 54 52,MV 13 54] (vU [O1 56 (.load (some 4)) 3,MV 57 8,MV 58 11,MV 59 13,ON 60 (.call 57 true) [.t 56,.t 57,.t 58,.t 59],MV 55
 60,O1 61 (.ext 0) 55,O1 62 (.ext 1) 55,⟨some 14,none,.alloc 2 88 [.str [],i6 0],[]⟩,ST 2 14 61,MV 15 62] (vU [vN 63 3 3,LD 64 63,vN 65 1 12,LD 66 65,O2 67 (.idxA 1) 64 66,LD 68
 67,MV 69 13,O2 70 (.idxA 1) 68 69,LD 71 70,MV 16 71] ((vU [MV 72 15,vP 73 .neq 72 0] (vV 73 ((vU [MV 74 15,vP 75 .neq 74 6,MV 76 75,vS 77 76 16,vT 78 76 (.bin .geq) 77 (i6
 0),vS 79 76 78,P1 80 79 true (.fldA 2) 3,P1 81 79 true (.load none) 80,MG 82 79 true 13,P2 83 79 true (.idxA 1) 81 82,P1 84 79 true (.load none) 83,MG 85 79 true 16,P2 86 79
 true (.idxA 6) 84 85,P1 87 79 true (.fldA 0) 86,P1 88 79 true (.load none) 87,P1 89 79 true (.fldA 0) 12,P1 90 79 true (.load none) 89,P2 91 79 true (.bin .eql) 88 90,QF 92 76
 false 79 91,PT 93 76 92] (vV 93 (vX [MC 6 (.bool false)]))).seq (C.exit 3)))).seq (vU [MV 94 16,vP 95 .lss 94 0,MV 96 95,v7 97 96 2 3,v8 98 96 97,vS 99 96 13,vR 100 96 (.idxA
 1) 98 99,v8 101 96 100,vS 102 96 16,vR 103 96 (.idxA 6) 101 102,v7 104 96 0 103,v8 105 96 104,v7 106 96 0 12,v8 107 96 106,vR 108 96 (.bin .neq) 105 107,PT 109 96 108,MV 110
 109,v7 111 110 2 3,v8 112 110 111,vS 113 110 13,vR 114 110 (.idxA 1) 112 113,v8 115 110 114,vS 116 110 16,vR 117 110 (.idxA 6) 115 116,v7 118 110 2 117,vQ 119 110 (.load (some
 2)) 118,vQ 120 110 (.load (some 2)) 14,⟨some 121,some (110,false),.aeq [.str,.int] true,[.t 119,.t 120]⟩,PT 122 110 121] (vV 122 (vX [MC 6 (.bool false)])))))))).seq (vY [vP
 123 .add 52 1,MV 52 123])))).loop)).seq (vU [O1 125 (.load (some 4)) 3,MV 126 8,MV 127 11,MV 128 9,ON 129 (.call 57 true) [.t 125,.t 126,.t 127,.t 128],MV 124 129,O1 130 (.ext
 0) 124,O1 131 (.ext 1) 124,⟨some 17,none,.alloc 3 88 [.str [],i6 0],[]⟩,ST 2 17 130,MV 18 131] (vU [vN 132 3 12,LD 133 132,vP 134 .lss 133 0,MV 135 134,MG 136 135 true 18,PC
 137 135 true (.bin .neq) 136 (i6 0),PF 138 135 137] (vV 138 (vX [MC 6 (.bool false)])))))))).seq (vY [vP 139 .add 33 1,MV 33 139])))).loop)).seq (vX [MV 140 7,O1 141 .len
 140,vP 142 .geq 141 0,MV 143 142,PN 144 143 true (.call 56 true) [],PF 145 143 144,MV 6 145])))))
theorem qc4:qO Tryz.prog 9 146 4 [RV.tmp 6] c9s:=fi Tryz.f9 [3,12,14,17] Db []
end
section
open Go Go.Proofs AF HY LN
namespace RC
theorem NP(x:Co)(d:List Dc)(q:Nat)(h:wh)(hq:q<=255)(hp:kS SG h)(hg:jf h frmN frmC)(h1:CoB x)(h2:d.length<=9223372036854775807):
  ACalls Tryz.prog 9 [.agg (coC x),jT d,.int .u8 (q:Int)] h (.bool true) h:=by
 have c1:=λl'=>B8 x d q (h++l') hq (hp.app l') hg.app h1 h2
 have c2:=λl'=>AX (h++l') (hp.app l')
 obtain⟨B,hB⟩:=wg (BS x d q)
 obtain⟨l,hl⟩:=wg (BU x d)
 obtain⟨b,hb⟩:=wg (BW x d q)
 obtain⟨nn,hnn⟩: ∃n,n=BV x d q:=⟨_,rfl⟩
 simp only[<-hB,<-hl,<-hb,<-hnn]at c1;unfold coC at c1;cases B with
 |false=>
  refine acO qc4 ?_;simp (disch:=omega) only[c9s,coC,go_sem]
  repeat' first|((first|refine cA (c1 _) ?_ ?_|refine cA (c2 _) ?_ ?_);exact flk;simp (disch:=omega) only[go_sem])|exact wa|with_reducible apply aiA|exact clz|fail
 |true=>
 obtain⟨o1,⟨o2,o3⟩,zu,d1,d2,d3,E,e1,e2,e3⟩:=B9 hB.symm;rw[<-hl]at e1;rw[<-hb]at e2;rw[<-hnn]at e3;obtain⟨m,hm⟩:=wg (nL x q)
 rw[<-hm]at E e2 e3;rw[<-e1]at E e2 zu;subst e3;have hsl:=E.sl;have ho:=E.co;have hln:=E.ln;have hlen:b.length=(rwA x l d m).length:=by rw[e2,jH]
 have hpv:=B7 E;have F:=λi (hi:i<(rwA x l d m).length)=>eZ E hi rfl
 rw[<-e2]at hpv F;have ht: ∀i,(b.getD i default).text.length<=1000000000:=ja b (λw=>w.text.length<=1000000000) (by decide) λi hi=>by have:=(F i om).2.1.2;omega
 have zb0:jl b= .sl b.length λi=>wdC (b.getD i default):=rfl
 have zb1: ∀g,valL g .len [jl b]= .int .i64 b.length:=λ_=>rfl
 have zb2: ∀g,okL g .len [jl b]=True:=λ_=>eqt trivial
 have zl1: ∀g,valL g .len [zH l]= .int .i64 l.length:=λ_=>rfl
 have zl2: ∀g,okL g .len [zH l]=True:=λ_=>eqt trivial
 have zs1: ∀g,valL g .len [strs x.sig]= .int .i64 x.sig.length:=λ_=>rfl
 have zs2: ∀g,okL g .len [strs x.sig]=True:=λ_=>eqt trivial
 have bd: ∀i,i<b.length->(b.getD i default).dec=((rwA x l d m).getD i default).d:=λi hi=>by rw[e2];exact YE om
 have po:=λi (hi:i<(rwA x l d m).length)=>Ed E hi
 rw[<-e2]at po;have hx:=E.ca;have k00:(0<=(l.length:Int))=True:=wr;refine acO qc4 ?_;simp (disch:=omega) only[c9s,coC,go_sem]
 repeat' first|(refine cA (c1 _) flk ?_;simp (disch:=omega) only[zb1,zb2,go_sem])|with_reducible apply aiA|exact clz|fail
 refine qt (T:=λi:Nat×AObj×AObj×AObj=>zk 146 [(3,.op h.length 1 0),(7,zH l),(8,jl b),(9,.int .i64 (m:Int)),(31,jl b),(32,.int .i64 b.length),(33,.int .i64 i.1)])
  (H:=λi=>h++ [.mem 1 26 (coC x),i.2.1,i.2.2.1,i.2.2.2])
  (inv:=λi=>i.1<=b.length∧qK [i.2.1] 0=true∧qK [i.2.2.1] 0=true∧qK [i.2.2.2] 0=true) (m:=λi=>b.length-i.1) (0,.emp 0,.emp 0,.emp 0) ⟨nzl _,rfl,rfl,rfl⟩ (Wk.temps ?_) ?_
 ·(simp only[go_sem,qf,qc,qb,qe];try exact we)
 rintro⟨i,O1,O2,O3⟩ ⟨i1,i2,i3,i4⟩ K hK;simp only at i1 i2 i3 i4 hK;have i2': ∀m,qK (O1::m) 0=true:=λ_=>i2
 have i3': ∀m,qK (O2::m) 0=true:=λ_=>i3
 have i4': ∀m,qK (O3::m) 0=true:=λ_=>i4
 by_cases hi:i<b.length
 case neg=>
  have k1:((i:Int)<b.length)=False:=wD;simp (disch:=omega) only[k1,zl1,zl2,k00,go_sem]
  repeat' first|(refine cG (λe=>c2 _) flk ?_;simp (disch:=omega) only[go_sem])|exact wa|fail
 have k1:((i:Int)<b.length)=True:=wr;obtain⟨⟨f1,f2⟩,_⟩:=F i om;have pcs:=λt c (ht:t<x.sig.length) hc hcl=>od (x:=x) (b:=b) (i:=i) (t:=t) (c:=c) hx hi ht hc hcl
 have c4:=λ(t:Nat) l'=>qeg x b i t (h++l') o1 om (hp.app l')
 have pl:=λ(hd:(b.getD i default).dec<0)=>po i om (by rw[<-bd i hi];exact hd)
 obtain⟨w,hw⟩:=wg (b.getD i default)
 have ew:=hw.symm;simp only[ew]at f1 f2 pl pcs;obtain⟨c,hc⟩: ∃c:Nat,w.col=(c:Int):=⟨w.col.toNat,om⟩
 rw[hc]at f1 f2;have hcl0:c<x.col.length:=by omega
 have pcs:=λt ht=>pcs t c ht hc hcl0
 have hcl:=ho.cl c hcl0;have hce:=λt (ht:t<x.sig.length)=>ho.ce c hcl0 t ht
 have htn:=ho.tn;obtain⟨r,hr⟩:=wg (x.col.getD c [])
 have er:=hr.symm;simp only[er]at pcs hcl hce;have q1:((c:Int)<0)=False:=wD;have q2:((x.col.length:Int)<=c)=False:=wD;have q3:(0<=(c:Int))=True:=wr;have q4:((c:Int)<x.col.length)=True:=wr;have zc1: ∀g,valL g .len [qo x.col]= .int .i64 x.col.length:=λ_=>rfl
 have zc2: ∀g,okL g .len [qo x.col]=True:=λ_=>eqt trivial
 have eW:wdC w= [.str w.text,.int .i64 (c:Int),.int .i64 w.unit,.int .i64 w.dec,.bool w.joined,.bool w.verse,.str w.name]:=by unfold wdC;rw[hc]
 unfold coC at c4;simp (disch:=omega) only[zb0,eW,coC,k1,ew,i2',zc1,zc2,q1,q2,zs1,zs2,go_sem]
 repeat' first|with_reducible apply aiA|exact clz|fail
 refine qt (T:=λn:Nat×AObj=>zk 146 [(3,.op h.length 1 0),(7,zH l),(8,jl b),(9,.int .i64 (m:Int)),(11,.int .i64 i),(12,.op (h.length+1) (qn (some O1)+1) 0),(31,jl b),(32,.int .i64 b.length),(33,.int .i64 i),(51,.int .i64 x.sig.length),(52,.int .i64 n.1)])
  (H:=λn=>h++ [.mem 1 26 (coC x),.mem (qn (some O1)+1) 36 [.str w.text,.int .i64 (c:Int),.int .i64 w.unit,.int .i64 w.dec,.bool w.joined,.bool w.verse,.str w.name],n.2,O3])
  (inv:=λn=>n.1<=x.sig.length∧qK [n.2] 0=true) (m:=λn=>x.sig.length-n.1) (0,O2) ⟨nzl _,i3⟩ (Wk.temps ?_) ?_
 ·(simp only[go_sem,qf,qc,qb,qe];try exact we)
 rintro⟨n,P⟩ ⟨n1,n2⟩ K2 hK2;simp only at n1 n2 hK2;have n2': ∀m,qK (P::m) 0=true:=λ_=>n2
 by_cases hn:n<x.sig.length
 ·have m1:((n:Int)<x.sig.length)=True:=wr;have m0:(0<=(n:Int))=True:=wr;have c5:=c4 n;have hE:=pcs n hn;have hR:poR x b i n=if poE x b i n=0 then [.str (poK x b i n).page,.int .i64 (poK x b i n).line] else [.str [],.int .i64 0]:=rfl
  have hK0:poK x b i n=(x.tok.getD n []).getD ((r).getD n 0).toNat default:=by
   unfold poK;rw[itn,itn,ew,hc,itn,er]
  have hce:=hce n hn;obtain⟨t,ht0⟩:=wg (r.getD n 0)
  have et:=ht0.symm;rw[et]at hE hce hK0;obtain⟨tl,htl⟩: ∃l,l=x.tok.getD n []:=⟨_,rfl⟩
  have el:=htl.symm;rw[el]at hE hce hK0;obtain⟨a,ha⟩:=wg (tl.getD t.toNat default)
  have ea:=ha.symm;rw[ea]at hE hK0;have q5:((n:Int)<r.length)=True:=wr;have q6:((n:Int)<x.tok.length)=True:=wr
  by_cases g7:t<0
  ·have q7:(0<=t)=False:=wD;rw[ipo (.inl g7)]at hE;rw[hE,ine (by decide)]at hR;simp only[hE,hR]at c5;simp (disch:=omega) only[zb0,coC,qo,qw,qm,zO,tkC,m1,go_sem]
   repeat' first|(refine cA (c5 _) flk ?_;simp (disch:=omega) only[n2',m0,q3,q4,q5,q6,q7,er,et,el,ea,go_sem])|(apply qa;exact rvk;simp only[go_sem];apply qd)|(with_reducible first|intro _|apply aiA)|exact clz|fail
   refine hK2 _ _ (n+1,.mem (qn (some P)+1) 88 [.str [],.int .i64 0]) ⟨hn,rfl⟩ (by simp only;omega) ?_;simp only[coC];refine Wk.temps ?_
   (simp only[go_sem,qf,qc,qb,qe];try exact we)
  have q7:(0<=t)=True:=wr;have q7':(t<0)=False:=eqf g7;have q9:(t<tl.length)=True:=eqt (by rcases hce with e|e;omega;omega)
  by_cases g8:a.text=w.text
  case neg=>
   have p1:(a.text=w.text)=False:=eqf g8;rw[ipo (.inr g8)]at hE;rw[hE,ine (by decide)]at hR;simp only[hE,hR]at c5;simp (disch:=omega) only[zb0,coC,qo,qw,qm,zO,tkC,m1,go_sem]
   repeat' first|(refine cA (c5 _) flk ?_;simp (disch:=omega) only[n2',m0,q3,q4,q5,q6,q7,q9,p1,er,et,el,ea,go_sem])|(apply qa;exact rvk;simp only[go_sem];apply qd)|(with_reducible first|intro _|apply aiA)|exact clz|fail
   refine hK2 _ _ (n+1,.mem (qn (some P)+1) 88 [.str [],.int .i64 0]) ⟨hn,rfl⟩ (by simp only;omega) ?_;simp only[coC];refine Wk.temps ?_
   (simp only[go_sem,qf,qc,qb,qe];try exact we)
  have p1:(a.text=w.text)=True:=eqt g8;rw[ine (by rintro (e|e);exact g7 e;exact e g8)]at hE;rw[hE,ipo rfl,hK0]at hR;simp only[hE,hR]at c5;simp (disch:=omega) only[zb0,coC,qo,qw,qm,zO,tkC,m1,go_sem]
  repeat' first|(refine cA (c5 _) flk ?_;simp (disch:=omega) only[n2',m0,q3,q4,q5,q6,q7,q7',q9,p1,er,et,el,ea,go_sem])|with_reducible apply aiA|exact clz|fail
  refine hK2 _ _ (n+1,.mem (qn (some P)+1) 88 [.str a.page,.int .i64 a.line]) ⟨hn,rfl⟩ (by simp only;omega) ?_;simp only[coC];refine Wk.temps ?_
  (simp only[go_sem,qf,qc,qb,qe];try exact we)
 have m1:((n:Int)<x.sig.length)=False:=wD;have c5:=c4 m
 by_cases hk:w.dec<0
 ·have m2:(w.dec<0)=True:=eqt hk;have hE:=pl hk;have hR:poR x b i m= [.str (poK x b i m).page,.int .i64 (poK x b i m).line]:=by unfold poR;rw[ipo hE]
  simp only[hE,hR]at c5;simp (disch:=omega) only[coC,m1,go_sem]
  repeat' first|(refine cA (c5 _) flk ?_;simp (disch:=omega) only[m2,i4',go_sem])|with_reducible apply aiA|exact clz|fail
  refine hK _ _ (i+1,.mem (qn (some O1)+1) 36 [.str w.text,.int .i64 (c:Int),.int .i64 w.unit,.int .i64 w.dec,.bool w.joined,.bool w.verse,.str w.name],P,.mem (qn (some O3)+1) 88 [.str (poK x b i m).page,.int .i64 (poK x b i m).line]) ⟨hi,rfl,n2,rfl⟩ (by simp only;omega) ?_;simp only[coC];refine Wk.temps ?_
  (simp only[go_sem,qf,qc,qb,qe];try exact we)
 ·have m2:(w.dec<0)=False:=eqf hk;obtain⟨R1,R2,hR⟩: ∃u v,poR x b i m= [.str u,.int .i64 v]:=by unfold poR;split<;>exact⟨_,_,rfl⟩
  simp only[hR]at c5;simp (disch:=omega) only[coC,m1,go_sem]
  repeat' first|(refine cA (c5 _) flk ?_;simp (disch:=omega) only[m2,i4',go_sem])|(apply qa;exact rvk;simp only[go_sem];apply qd)|(with_reducible first|intro _|apply aiA)|exact clz|fail
  refine hK _ _ (i+1,.mem (qn (some O1)+1) 36 [.str w.text,.int .i64 (c:Int),.int .i64 w.unit,.int .i64 w.dec,.bool w.joined,.bool w.verse,.str w.name],P,.mem (qn (some O3)+1) 88 [.str R1,.int .i64 R2]) ⟨hi,rfl,n2,rfl⟩ (by simp only;omega) ?_;simp only[coC];refine Wk.temps ?_
  (simp only[go_sem,qf,qc,qb,qe];try exact we)
end RC
end
