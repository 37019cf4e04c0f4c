import Derived.Test.YtmieflnoheifbaaGreatDoorK3
import Derived.Test.YtmieflnoheifbaaGreatDoorK5
import Derived.Test.YtmieflnoheifbaaGreatDoorK8
import Derived.Test.YtmieflnoheifbaaGreatDoorProg
import Derived.Test.YtmieflnoheifbaaGreatDoorK10
import Derived.Test.YtmieflnoheifbaaGreatDoorK16
import Derived.Test.YtmieflnoheifbaaGreatDoorK9
import Derived.Test.YtmieflnoheifbaaGreatDoorK13
import Derived.Test.YtmieflnoheifbaaGreatDoorRows
import Derived.LaidLaws
import Derived.OpenShut
set_option linter.all false
set_option maxRecDepth 100000
section
open Go Go.Proofs AF
def qt7:List Nat:= []
def c7s:C:=
 (vS [O1 2 (.box 0 26) 0,MC 4 (.bool false)] ((vS [O1 27 (.load (some 4)) 2,O1 28 (.call 9 true) 27,MV 29 28,vO 30 29 (.load (some 4)) 2,vO 31 29 (.call 47 true) 30,vR 32 29
 (.bin .neq) 31 (i6 0),PT 33 29 32] (vT 33 (vV [ON 34 (.call 48 true) [],MV 4 34]))).seq (vS [O1 36 (.load (some 4)) 2,O1 37 (.call 12 true) 36,MV 35 37,O1 38 (.ext 0) 35,O1 39
 (.ext 1) 35,MV 5 38,MV 6 39] ((vS [MV 40 6,vN 41 .neq 40 0] (vT 41 (vV [MC 4 (.bool false)]))).seq (vS [O1 43 (.load (some 4)) 2,MV 44 5,MV 45 1,O1 46 (.conv .i64) 45,vL 47 1
 2,LD 48 47,O1 49 .len 48,ON 50 (.mm true) [.c (i6 1),.t 49],BI 51 .rem 46 50,ON 52 (.call 17 true) [.t 43,.t 44,.c .nl,.t 51],MV 42 52,O1 53 (.ext 0) 42,O1 54 (.ext 1) 42,MV 7
 53,MV 8 54] ((vS [MV 55 8,vN 56 .neq 55 0] (vT 56 (vV [MC 4 (.bool false)]))).seq (vS [MV 57 7,O1 58 (.call 19 true) 57,MV 9 58] ((vS [MV 59 9,O1 60 .len 59,vN 61 .gtr 60 12]
 (vT 61 (vV [ON 62 (.call 48 true) [],MV 4 62]))).seq (vS [ON 63 (.mkmap 1) [],MV 10 63] ((vS [MV 64 9,O1 65 .len 64,vM 66 0] (C.block 0 (vS [BI 67 .lss 66 65] ((vU 67 0).seq
 ((C.block 1 (vS [MV 68 66,MV 11 68] (vS [MV 69 11,vN 70 .add 69 1,MV 12 70] (C.block 2 ((vS [MV 71 12,MV 72 9,O1 73 .len 72,BI 74 .leq 71 73] (vU 74 2)).seq ((C.block 3 (vS [MV
 78 9,MV 79 11,MV 80 12,ON 81 (.call 49 true) [.t 78,.t 79,.t 80],MV 77 81,O1 82 (.ext 0) 77,O1 83 (.ext 1) 77,⟨some 13,none,.alloc 2 90 [.str [],.str [],i6 0],[]⟩,ST 3 13 82,MV
 14 83] (vS [O1 85 (.load (some 3)) 13,O1 86 (.call 50 true) 85,MV 84 86,O1 87 (.ext 0) 84,O1 88 (.ext 1) 84,MV 15 87,MV 16 88] (vS [MV 90 15,O1 91 (.call 51 true) 90,MV 89
 91,O1 92 (.ext 0) 89,O1 93 (.ext 1) 89,⟨some 17,none,.alloc 3 90 [.str [],.str [],i6 0],[]⟩,ST 3 17 92,MV 18 93] (vS [MV 95 9,O1 96 (.load (some 3)) 17,O2 97 (.call 52 true) 95
 96,MV 94 97,O1 98 (.ext 0) 94,O1 99 (.ext 1) 94,O1 100 (.ext 2) 94,MV 19 98,MV 20 99,MV 21 100] ((vS [MV 101 14,MV 102 16,MV 103 18,MV 104 21,ON 105 (.mm true) [.t 101,.t
 102,.t 103,.t 104],vN 106 .neq 105 0,MV 107 106,vO 108 107 (.load (some 3)) 17,vO 109 107 (.load (some 3)) 13,⟨some 110,some (107,false),.aeq [.str,.str,.int] true,[.t 108,.t
 109]⟩,PT 111 107 110,MV 112 111,vQ 113 112 19,vQ 114 112 11,vP 115 112 (.bin .neq) 113 114,PT 116 112 115,MV 117 116,vQ 118 117 20,vQ 119 117 12,vP 120 117 (.bin .neq) 118
 119,PT 121 117 120,MV 122 121,vQ 123 122 10,vQ 124 122 15,vP 125 122 (.mlk .str false (.bool false)) 123 124,PT 126 122 125] (vT 126 (vV [MC 4 (.bool false)]))).seq (vS [MV 127
 10,MV 128 15,⟨none,none,.mupd .str,[.t 127,.t 128,.c (.bool true)]⟩] (vS [MV 130 9,MV 131 11,O2 132 (.slc 1 true false) 130 131,MV 133 12,MV 134 11,BI 135 .sub 133 134,ON 136
 (.call 49 true) [.t 132,.c (i6 0),.t 135],MV 129 136,O1 137 (.ext 0) 129,O1 138 (.ext 1) 129,⟨some 22,none,.alloc 4 90 [.str [],.str [],i6 0],[]⟩,ST 3 22 137,MV 23 138] (vS [MV
 140 9,MV 141 11,O2 142 (.slc 1 true false) 140 141,O1 143 (.load (some 3)) 22,O2 144 (.call 52 true) 142 143,MV 139 144,O1 145 (.ext 0) 139,O1 146 (.ext 1) 139,O1 147 (.ext 2)
 139,MV 24 145,MV 25 146,MV 26 147] (vS [MV 148 23,vN 149 .neq 148 0,MV 150 149,vQ 151 150 26,vR 152 150 (.bin .neq) 151 (i6 0),PT 153 150 152,MV 154 153,vQ 155 154 24,vR 156
 154 (.bin .neq) 155 (i6 0),PT 157 154 156,MV 158 157,vQ 159 158 25,vQ 160 158 12,vQ 161 158 11,vP 162 158 (.bin .sub) 160 161,vP 163 158 (.bin .neq) 159 162,PT 164 158 163,MV
 165 164,vZ 166 165 0 22,v6 167 165 166,vZ 168 165 0 13,v6 169 165 168,vP 170 165 (.bin .neq) 167 169,PT 171 165 170,MV 172 171,vZ 173 172 1 22,v6 174 172 173,vZ 175 172 1 13,v6
 176 172 175,vP 177 172 (.bin .neq) 174 176,PT 178 172 177,MV 179 178,vZ 180 179 2 22,v6 181 179 180,vZ 182 179 2 13,v6 183 179 182,vP 184 179 (.bin .gtr) 181 183,PT 185 179
 184] (vT 185 (vV [MC 4 (.bool false)])))))))))))).seq (vX 75 12))).loop)))).seq (vW [vN 186 .add 66 1,MV 66 186])))).loop)).seq (vV [ON 187 (.call 48 true) [],MV 4
 187])))))))))))
theorem qBu:qK Tryz.prog 7 188 5 [RV.tmp 4] c7s:=fi Tryz.f7 [2,63,13,17,22] qt7 []
end
section
open Go Go.Proofs AF HY LN
namespace RC
set_option maxHeartbeats 32000000
def qAL:List Str:= [[97],[98],[97]]
theorem qsp: ∀s∈qAL,zW s=true:=by decide
theorem qBG(h:we)(hp:ku SG h):ACalls Tryz.prog 48 [] h (.bool true) h:=by
 have e0:lmF qAL 2= [97]∧lmL qAL 2 3= []∧lmN qAL 2 3=2:=by decide
 have c1:=λh' (hq:ku SG h')=>qCK qAL 2 3 h' qsp (by decide) (by decide) (by decide) hq
 have hk:=qh0 (a:=2) (b:=3) qsp (by decide) (by decide) (by decide);rw[e0.1,e0.2.1,e0.2.2]at hk;simp only[e0.1,e0.2.1,e0.2.2]at c1;have c2:=λl'=>qzD [97] [] 2 (h++l') hk (hp.app l')
 have e1:prS [97] [] 2= [97,35,50]:=by decide+kernel
 rw[e1]at c2;have i2:((2:Nat):Int)=2:=rfl;rw[i2]at c2;refine acO qCj ?_;simp (disch:=omega) only[qDv,go_sem];refine cA (r:= .tup [.agg [.str [97],.str [],.int .i64 2],.int .i64 0]) ?d (by exact flk) ?_
 case d=>
  refine qms (hp.app _) (λh' hq=>(c1 h' hq).le ?_ (qi)) rfl;simp only[List.map_cons,List.map_nil,go_sem];exact⟨VLe.sl_eq rfl (λi hi=>by
   match i,hi with
   |0,_=>rfl
   |1,_=>rfl
   |2,_=>rfl
   |n+3,hi=>exact absurd hi om),qi,qi,trivial⟩
 simp (disch:=omega) only[go_sem]
 repeat' first|((first|refine cA (c2 _) ?_ ?_|refine cG (λe=>c2 _) ?_ ?_|refine cU (λ_=>c2 _) ?_ ?_);exact flk;simp (disch:=omega) only[go_sem])|((first|apply qa|apply qc);exact rvk;simp only[go_sem];first|exact qi|apply qe|apply qd|apply qz|skip)|(with_reducible first|intro _|apply aiA)|exact clz|fail
theorem qnt(w:List Str){a:Nat}(h:a<=w.length):(.sl (w.length-a) λi=> [.str (w.getD (a+i) [])])=strs (w.drop a):=by
 unfold strs;rw[List.length_drop];congr 1;funext i;rw[gO]
theorem qCF(x:Co)(q:Nat)(h:we)(hq:q<=255)(hp:ku SG h)(hg:z6 h frmN frmC)(h1:CoB x):
  ACalls Tryz.prog 7 [.agg (coC x),.int .u8 (q:Int)] h (.bool true) h:=by
 have c1:=λh=>qEt x h h1
 have c2:=λl'=>qBG (h++l') (hp.app l')
 cases e1:qvZ x with
 |true=>
  rw[e1]at c1;unfold coC at c1;refine acO qBu ?_;simp (disch:=omega) only[c7s,coC,go_sem]
  repeat' first|(refine ql ( .int .i64 0) ?_;simp (disch:=omega) only[coC,go_sem])|(refine ql ( .bool false) ?_;simp (disch:=omega) only[coC,go_sem])|((first|refine cA (c1 _) ?_ ?_|refine cG (λe=>c1 _) ?_ ?_|refine cA (c2 _) ?_ ?_|refine cG (λe=>c2 _) ?_ ?_|refine cU (λ_=>c1 _) ?_ ?_|refine cU (λ_=>c2 _) ?_ ?_);exact flk;simp (disch:=omega) only[coC,go_sem])|((first|apply qa|apply qc);exact rvk;simp only[go_sem];first|exact qi|apply qe|apply qd|apply qz|skip)|(with_reducible first|intro _|apply aiA)|exact clz|fail
 |false=>
 obtain⟨o1,o2,o3⟩:=qzm e1;have c3:=λl'=>coP x (h++l') o1 (hp.app l')
 rw[e1]at c1
 by_cases e2:coE x=0
 case neg=>
  have k2:(coE x=0)=False:=eqf e2;obtain⟨E,hE⟩:=wc (coE x)
  simp only[<-hE]at c3 k2;unfold coC at c1 c3;refine acO qBu ?_;simp (disch:=omega) only[c7s,coC,go_sem]
  repeat' first|((first|refine cA (c1 _) ?_ ?_|refine cG (λe=>c1 _) ?_ ?_|refine cA (c3 _) ?_ ?_|refine cG (λe=>c3 _) ?_ ?_|refine cA (c2 _) ?_ ?_|refine cG (λe=>c2 _) ?_ ?_|refine cU (λ_=>c1 _) ?_ ?_|refine cU (λ_=>c3 _) ?_ ?_|refine cU (λ_=>c2 _) ?_ ?_);exact flk;simp (disch:=omega) only[coC,k2,go_sem])|((first|apply qa|apply qc);exact rvk;simp only[go_sem];first|exact qi|apply qe|apply qd|apply qz|skip)|(with_reducible first|intro _|apply aiA)|exact clz|fail
 simp only[e2]at c3;have ho:=qad e2;have hsg:=ho.sg;have zu:=qvw (x:=x) om om;have hus:=UG x;have hcv:=qnF x;have hva:=qvx e2;have hll:(qbw x).length<=x.col.length:=by
  have h1:=qdL (s:=0) (UG x) (d:= []) (by simp) (qbw x).length (nlr _);have h2:=qaV (UG x) (nlr (qbw x).length);omega
 have c4:=λl'=>qC7 x (h++l') o1 (hp.app l')
 have u1:utR x=qbw x:=by unfold utR;rw[ipo e2]
 have u2:utE x=0:=by unfold utE;rw[ipo e2]
 rw[u1,u2]at c4;obtain⟨s,hs⟩:=wc (q%x.sig.length)
 have hsl:s<x.sig.length:=by rw[hs];exact Nat.mod_lt _ hsg.1
 have hmx:max 1 (x.sig.length:Int)=x.sig.length:=by omega
 have hs1:(q:Int)%(x.sig.length:Int)=(s:Int):=by rw[hs];omega
 have k0:((x.sig.length:Int)=0)=False:=wi;obtain⟨l,hl⟩:=wc (qbw x)
 rw[<-hl]at c4 zu hus hcv hva hll;have E0:=qi3.mk0 hva hsl (by have:=qfO (s:=s) hus;omega);have c5:=λl'=>(qEm x l [] s (h++l') o1 zu (hp.app l') hg.app (by simp) (by simp) (λg=>qu8 om (by simp) g)).le (args:= [.agg (coC x),jI l,.nl,.int .i64 (s:Int)]) ⟨qi,qi,zB,qi,trivial⟩ (qi)
 have f1:esE x l [] s=0:=E0.esE;have f2:esR x l [] s=bsW (rwA x l [] s):=by unfold esR;rw[ipo f1,itn]
 rw[f1,f2]at c5;have hw:=qpe E0;have hbn:=E0.ln;obtain⟨b,hb⟩:=wc (bsW (rwA x l [] s))
 have hbl:b.length<=1024:=by rw[hb,gH];exact hbn
 rw[<-hb]at c5 hw;have c6:=λh=>qDr b h om
 have hwl:(qhe b).length<=1024:=by unfold qhe;rw[List.length_map];exact hbl
 obtain⟨w,hwe⟩:=wc (qhe b)
 rw[<-hwe]at hw hwl;simp only[<-hwe]at c6;have zg1: ∀g,valL g .len [strs x.sig]= .int .i64 x.sig.length:=λ_=>rfl
 have zg2: ∀g,okL g .len [strs x.sig]=True:=λ_=>eqt trivial
 have zw1: ∀g,valL g .len [strs w]= .int .i64 w.length:=λ_=>rfl
 have zw2: ∀g,okL g .len [strs w]=True:=λ_=>eqt trivial
 unfold coC at c1 c3 c4 c5
 by_cases g0:12<w.length
 ·have k1:((12:Int)<w.length)=True:=wh;refine acO qBu ?_;simp (disch:=omega) only[c7s,coC,zg1,zg2,zw1,zw2,k0,hmx,hs1,k1,go_sem]
  repeat' first|((first|refine cA (c1 _) ?_ ?_|refine cG (λe=>c1 _) ?_ ?_|refine cA (c3 _) ?_ ?_|refine cG (λe=>c3 _) ?_ ?_|refine cA (c4 _) ?_ ?_|refine cG (λe=>c4 _) ?_ ?_|refine cA (c5 _) ?_ ?_|refine cG (λe=>c5 _) ?_ ?_|refine cA (c6 _) ?_ ?_|refine cG (λe=>c6 _) ?_ ?_|refine cA (c2 _) ?_ ?_|refine cG (λe=>c2 _) ?_ ?_|refine cU (λ_=>c1 _) ?_ ?_|refine cU (λ_=>c3 _) ?_ ?_|refine cU (λ_=>c4 _) ?_ ?_|refine cU (λ_=>c5 _) ?_ ?_|refine cU (λ_=>c6 _) ?_ ?_|refine cU (λ_=>c2 _) ?_ ?_);exact flk;simp (disch:=omega) only[coC,zg1,zg2,zw1,zw2,k0,hmx,hs1,k1,go_sem])|((first|apply qa|apply qc);exact rvk;simp only[go_sem];first|exact qi|apply qe|apply qd|apply qz|skip)|(with_reducible first|intro _|apply aiA)|exact clz|fail
 have k1:((12:Int)<w.length)=False:=wi;refine acO qBu ?_;simp (disch:=omega) only[c7s,coC,zg1,zg2,zw1,zw2,k0,hmx,hs1,k1,go_sem]
 repeat' first|((first|refine cA (c1 _) ?_ ?_|refine cG (λe=>c1 _) ?_ ?_|refine cA (c3 _) ?_ ?_|refine cG (λe=>c3 _) ?_ ?_|refine cA (c4 _) ?_ ?_|refine cG (λe=>c4 _) ?_ ?_|refine cA (c5 _) ?_ ?_|refine cG (λe=>c5 _) ?_ ?_|refine cA (c6 _) ?_ ?_|refine cG (λe=>c6 _) ?_ ?_|refine cU (λ_=>c1 _) ?_ ?_|refine cU (λ_=>c3 _) ?_ ?_|refine cU (λ_=>c4 _) ?_ ?_|refine cU (λ_=>c5 _) ?_ ?_|refine cU (λ_=>c6 _) ?_ ?_);exact flk;simp (disch:=omega) only[coC,zg1,zg2,zw1,zw2,k0,hmx,hs1,k1,go_sem])|((first|apply qa|apply qc);exact rvk;simp only[go_sem];first|exact qi|apply qe|apply qd|apply qz|skip)|(with_reducible first|intro _|apply aiA)|exact clz|fail
 have hn:w.length<=100:=by omega
 have zm4:valP (.mm true) [.int .i64 0,.int .i64 0,.int .i64 0,.int .i64 0]= .int .i64 0:=rfl;have zn4:okP (.mm true) [.int .i64 0,.int .i64 0,.int .i64 0,.int .i64 0]=True:=eqt (by simp[okP,qbr]);have zA: ∀(f l:Str) (n:Nat),jt [.str,.str,.int] [.str f,.str l,.int .i64 (n:Int)] [.str f,.str l,.int .i64 (n:Int)]=some true:=λf l n=>by simp[jt,gF]
 refine qt (T:=λs:Nat×AObj×AObj×AObj=>zg 188 [(9,strs w),(10,.mp (h.length+1) 1),(65,.int .i64 w.length),(66,.int .i64 (s.1:Int))])
  (H:=λs=>h++ [.mem 1 26 [.str x.sec,strs x.sig,qp x.tok,qw x.col],.map 1 (qoc (seL w s.1)),s.2.1,s.2.2.1,s.2.2.2])
  (inv:=λs=>s.1<=w.length∧qH [s.2.1] 0=true∧qH [s.2.2.1] 0=true∧qH [s.2.2.2] 0=true) (m:=λs=>w.length-s.1) (0,.emp 0,.emp 0,.emp 0) ⟨nzl _,rfl,rfl,rfl⟩ (Wk.temps ?_) ?_
 ·(simp only[go_sem,qh,qf,qb,qg];try exact wa)
 rintro⟨a,O2,O3,O4⟩ ⟨i1,i2,i3,i4⟩ K hK;simp only at i1 i2 i3 i4 hK
 by_cases ha:a<w.length
 case neg=>
  have q0:((a:Int)<w.length)=False:=wi;simp (disch:=omega) only[q0,go_sem]
  repeat' first|((first|refine cA (c2 _) ?_ ?_|refine cG (λe=>c2 _) ?_ ?_|refine cU (λ_=>c2 _) ?_ ?_);exact flk;simp (disch:=omega) only[q0,go_sem])|((first|apply qa|apply qc);exact rvk;simp only[go_sem];first|exact qi|apply qe|apply qd|apply qz|skip)|(with_reducible first|intro _|apply aiA)|exact clz|fail
 have q0:((a:Int)<w.length)=True:=wh;simp (disch:=omega) only[q0,go_sem]
 repeat' first|((first|apply qa|apply qc);exact rvk;simp only[go_sem];first|exact qi|apply qe|apply qd|apply qz|skip)|(with_reducible first|intro _|apply aiA)|exact clz|fail
 refine qt (T:=λs:Nat×AObj×AObj×AObj=>zg 188 [(9,strs w),(10,.mp (h.length+1) 1),(11,.int .i64 (a:Int)),(12,.int .i64 ((a+1+s.1:Nat):Int)),(65,.int .i64 w.length),(66,.int .i64 (a:Int))])
  (H:=λs=>h++ [.mem 1 26 [.str x.sec,strs x.sig,qp x.tok,qw x.col],.map 1 (qoc (seL w a++seR w a s.1)),s.2.1,s.2.2.1,s.2.2.2])
  (inv:=λs=>a+s.1<=w.length∧qH [s.2.1] 0=true∧qH [s.2.2.1] 0=true∧qH [s.2.2.2] 0=true) (m:=λs=>w.length-s.1) (0,O2,O3,O4) ⟨by simp only;omega,i2,i3,i4⟩ ?_ ?_
 ·simp only[seR,lan];refine Wk.temps ?_
  (simp only[go_sem,qh,qf,qb,qg];try exact wa)
 rintro⟨d,P2,P3,P4⟩ ⟨j1,j2,j3,j4⟩ K2 hK2;simp only at j1 j2 j3 j4 hK2;have j2': ∀m,qH (P2::m) 0=true:=λ_=>j2
 have j3': ∀m,qH (P3::m) 0=true:=λ_=>j3
 have j4': ∀m,qH (P4::m) 0=true:=λ_=>j4
 by_cases hd:a+1+d<=w.length
 case neg=>
  have m0:(((a+1+d:Nat):Int)<=w.length)=False:=wi;obtain rfl:d=w.length-a:=by omega
  simp (disch:=omega) only[zw1,zw2,m0,go_sem]
  repeat' first|((first|apply qa|apply qc);exact rvk;simp only[go_sem];first|exact qi|apply qe|apply qd|apply qz|skip)|(with_reducible first|intro _|apply aiA)|exact clz|fail
  refine hK _ _ (a+1,P2,P3,P4) ⟨ha,j2,j3,j4⟩ (by simp only;omega) (Wk.temps ?_)
  (simp only[go_sem,qh,qf,qb,qg];try exact wa)
 have hne:=qAk hw hn (a:=a) (d:=d) hd;have hS:seR w a (d+1)=seR w a d++ [lmS w a (a+1+d)]:=rfl;obtain⟨c,hc⟩:=wc (a+1+d)
 have ec:=hc.symm;simp only[ec]at hne hS hd ⊢;have hac:a<c:=by omega
 have hwd: ∀s∈w.drop a,zW s=true:=λs hs=>hw s (List.mem_of_mem_drop hs)
 have hdl:(w.drop a).length=w.length-a:=List.length_drop;have d1:=λl'=>qCK w a c (h++l') hw hac hd hn (hp.app l')
 have hk:=qh0 hw hac hd hn;have d2:=λl'=>qzD _ _ _ (h++l') hk (hp.app l')
 have d3:=λl'=>qCG _ _ _ (h++l') hk (hp.app l')
 have d4:=λl'=>qDR w a c (h++l') hw hac hd hn (hp.app l')
 have d5:=λl'=>qCK (w.drop a) 0 (c-a) (h++l') hwd om om om (hp.app l')
 have d6:=λl'=>qDR (w.drop a) 0 (c-a) (h++l') hwd om om om (hp.app l')
 obtain⟨f1,f2,f3⟩:=quf hac hd λs hs=>(kG (hw s hs)).2.2
 simp only[f1,f2]at d5 d6;have z0:((0:Nat):Int)=0:=rfl;simp only[z0]at d5 d6;have hSe:lmS w a c=prS (lmF w a) (lmL w a c) (lmN w a c):=rfl;obtain⟨N',hN'⟩:=wc (lmN (w.drop a) 0 (c-a))
 obtain⟨N,hN⟩:=wc (lmN w a c)
 obtain⟨f,hf⟩:=wc (lmF w a)
 obtain⟨l2,hl2⟩:=wc (lmL w a c)
 rw[<-hf,<-hl2,<-hN]at hSe;rw[<-hN',<-hN]at f3;simp only[<-hf,<-hl2,<-hN,<-hN',<-hSe]at d1 d2 d3 d4 d5 d6;obtain⟨S,hSS⟩:=wc (lmS w a c)
 rw[<-hSS]at hne hS;simp only[<-hSS]at d2 d3;obtain⟨M,hM⟩:=wc (seL w a++seR w a d)
 rw[<-hM]at hne ⊢;have g1:=qlH (z:= .bool false) hne;have g2:=qlK hne;have g3:=qdx hne;have hM2:seL w a++seR w a (d+1)=M++ [S]:=by rw[hS,hM,List.append_assoc]
 have m0:((c:Int)<=w.length)=True:=wh;have m1:(c:Int)-a=((c-a:Nat):Int):=by omega
 have m2:((N:Int)<N')=False:=wi;have zs1: ∀g,valL g (.slc 1 true false) [strs w,.int .i64 (a:Int)]=strs (w.drop a):=λg=>by
  rw[<-qnt w om];show valL g (.slc 1 true false) [.sl w.length (λi=> [.str (w.getD i [])]),.int .i64 (a:Int)]=_;rw[qfc,itn,itn]
 have zs2: ∀g,okL g (.slc 1 true false) [strs w,.int .i64 (a:Int)]=True:=λg=>by
  show okL g (.slc 1 true false) [.sl w.length (λi=> [.str (w.getD i [])]),.int .i64 (a:Int)]=_;rw[qgI];exact eqt ⟨⟨om,om,om⟩,λ_=>rfl⟩
 simp (disch:=omega) only[zw1,zw2,m0,j2',j3',j4',go_sem]
 repeat' first|((first|refine cA (d1 _) ?_ ?_|refine cG (λe=>d1 _) ?_ ?_|refine cA (d2 _) ?_ ?_|refine cG (λe=>d2 _) ?_ ?_|refine cA (d3 _) ?_ ?_|refine cG (λe=>d3 _) ?_ ?_|refine cA (d4 _) ?_ ?_|refine cG (λe=>d4 _) ?_ ?_|refine cA (d5 _) ?_ ?_|refine cG (λe=>d5 _) ?_ ?_|refine cA (d6 _) ?_ ?_|refine cG (λe=>d6 _) ?_ ?_|refine cU (λ_=>d1 _) ?_ ?_|refine cU (λ_=>d2 _) ?_ ?_|refine cU (λ_=>d3 _) ?_ ?_|refine cU (λ_=>d4 _) ?_ ?_|refine cU (λ_=>d5 _) ?_ ?_|refine cU (λ_=>d6 _) ?_ ?_);exact flk;simp (disch:=omega) only[zw1,zw2,zs1,zs2,zm4,zn4,zA,m0,m1,m2,j2',j3',j4',g1,g2,g3,Option.getD_some,Option.isSome_some,eq_self,go_sem])|((first|apply qa|apply qc);exact rvk;simp only[go_sem];first|exact qi|apply qe|apply qd|apply qz|skip)|(with_reducible first|intro _|apply aiA)|exact clz|fail
 refine hK2 _ _ (d+1,.mem (qo (some P2)+1) 90 [.str f,.str l2,.int .i64 (N:Int)],.mem (qo (some P3)+1) 90 [.str f,.str l2,.int .i64 (N:Int)],.mem (qo (some P4)+1) 90 [.str f,.str l2,.int .i64 (N':Int)]) ⟨by simp only;omega,rfl,rfl,rfl⟩ (by simp only;omega) ?_;simp only[hM2];refine Wk.temps ?_
 (simp only[go_sem,qh,qf,qb,qg];try exact wa)
end RC
end
section
open Go Go.Proofs AF HY Go.ChangeShapes Go.RowKit
namespace LN
theorem qCy : Tryz.prog.globalNamed "internal/strconv.uint64pow10" = some 1 := by kernel_rfl
theorem qCA : Tryz.prog.globalNamed "strconv.ErrSyntax" = some 2 := by kernel_rfl
theorem qCz : Tryz.prog.globalNamed "strconv.ErrRange" = some 3 := by kernel_rfl
theorem qDO : Tryz.prog.globalNamed "apograph/transcript.forms" = some 4 := by kernel_rfl
theorem qqo{w w':World}(h:qsq w)(e:w'.heap[1]? =w.heap[1]?):qsq w':=by
 unfold qsq Lib.TabIs at*;rw[qd3 qCy e];exact h
theorem qix : "*" ++ "errors.errorString" = "*errors.errorString" := by decide
theorem qsg (u : TypeId) (h : Tryz.prog.typeName? 3 u = some "*errors.errorString") : u = 427 :=
 typeName_ptr_named (nm := "errors.errorString") (by rw [qix]; kernel_rfl) (by kernel_rfl) (by decide) u (by rw [qix]; exact h)
structure Fr where
 s:List UInt8
 a:Bool
 b:Bool
 c:Bool
def Fr.av(r:Fr):wg:= [.str r.s,.bool r.a,.bool r.b,.bool r.c]
def Fr.vl(r:Fr):List Value:= [.string ⟨r.s.toArray⟩,.bool r.a,.bool r.b,.bool r.c]
def Fr.da{H:Type}(r:Fr):DataW H:= .agg [.lit (.string r.s),.lit (.bool r.a),.lit (.bool r.b),.lit (.bool r.c)]
def frL:List Fr:= [⟨[],false,false,false⟩,⟨[],true,false,false⟩,⟨[108,98],false,false,false⟩,⟨[112,98],true,false,false⟩,⟨[115,101,99],true,false,false⟩,⟨[118],false,false,false⟩,
 ⟨[103,97,112],false,true,false⟩,⟨[117,110,99,108,101,97,114],false,false,true⟩,⟨[97,100,100],false,true,true⟩,⟨[100,101,108],false,true,true⟩,⟨[97,98],true,false,true⟩,⟨[110,97,109,101],true,false,true⟩]
theorem qzh:RC.frmC=frL.flatMap Fr.av:=rfl
theorem qzi:(YtmieflnoheifbaaGreatDoor.Rows.laid_apograph_transcript_forms:DataW Unit)= .agg (frL.map Fr.da):=rfl
theorem qCe{α β:Type}{f:α->List β}(hf: ∀a,(f a).length=4): ∀(l:List α) (i j:Nat),j<4->(l.flatMap f)[i*4+j]? =(l[i]?).bind λa=>(f a)[j]? :=by
 intro l
 induction l with
 |nil=>intro i j _;simp
 |cons a l ih=>
  intro i j hj;rw[List.flatMap_cons];cases i with
  |zero=>
   rw[Nat.zero_mul,Nat.zero_add,List.getElem?_append_left (by rw[hf];exact hj)];rfl
  |succ i=>
   rw[List.getElem?_append_right (by rw[hf];omega),hf,show (i+1)*4+j-4=i*4+j by omega,ih i j hj];rfl
theorem qcH:Tryz.prog.cellsOf 414=4:=by kernel_rfl
theorem qfp:Tryz.prog.cellsOf 415=48:=by kernel_rfl
theorem qoU:Tryz.prog.cellsOf 9=1:=by kernel_rfl
theorem qoS:Tryz.prog.cellsOf 4=1:=by kernel_rfl
theorem qAh{H:Type}{enc:TypeId×Value->H}{w:World}{base fuel:Nat}{spare:Nat->Bool}{held:Bool}{cs:List Value}{x:DataW H×List MemPlace}{r:Fr}
  (h:DataW.trod enc Tryz.prog w base spare held fuel 414 cs=some x) (hx:x.1=r.da):cs=r.vl:=by
 obtain⟨xs,n,_,hxe,hl,hxl,hf⟩:=DataW.trod_struct Tryz.underlying414 h;rw[qcH]at hl
 match cs,hl with
 | [v0,v1,v2,v3],_=>
 match xs,hxl with
 | [y0,y1,y2,y3],_=>
  have h0:DataW.trod enc Tryz.prog w base spare held n 9 (([v0,v1,v2,v3].drop 0).take (Tryz.prog.cellsOf 9))= [y0,y1,y2,y3][0]? :=hf 0 _ rfl;have h1:DataW.trod enc Tryz.prog w base spare held n 4 (([v0,v1,v2,v3].drop 1).take (Tryz.prog.cellsOf 4))= [y0,y1,y2,y3][1]? :=hf 1 _ rfl;have h2:DataW.trod enc Tryz.prog w base spare held n 4 (([v0,v1,v2,v3].drop 2).take (Tryz.prog.cellsOf 4))= [y0,y1,y2,y3][2]? :=hf 2 _ rfl;have h3:DataW.trod enc Tryz.prog w base spare held n 4 (([v0,v1,v2,v3].drop 3).take (Tryz.prog.cellsOf 4))= [y0,y1,y2,y3][3]? :=hf 3 _ rfl;rw[qoU]at h0;rw[qoS]at h1 h2 h3;obtain⟨s,e0,x0,_⟩:=DataW.trod_string Tryz.underlying9 h0;obtain⟨b1,e1,x1⟩:=DataW.trod_bool Tryz.underlying4 h1;obtain⟨b2,e2,x2⟩:=DataW.trod_bool Tryz.underlying4 h2;obtain⟨b3,e3,x3⟩:=DataW.trod_bool Tryz.underlying4 h3;have hy:([y0,y1,y2,y3]:List (DataW H×List MemPlace)).map (·.1)= [.lit (.string r.s),.lit (.bool r.a),.lit (.bool r.b),.lit (.bool r.c)]:=by
   have hx:=hxe▸hx;exact DataW.agg.inj hx
  rw[x0,x1,x2,x3]at hy;simp at hy e0 e1 e2 e3;obtain⟨g0,g1,g2,g3⟩:=hy;unfold Fr.vl;subst e0 e1 e2 e3;rw[<-g0,g1,g2,g3]
theorem qCx {W : World} {rest : List (String × DataW Unit)} (h : laidMet Tryz.prog (("apograph/transcript.forms", YtmieflnoheifbaaGreatDoor.Rows.laid_apograph_transcript_forms) :: rest) W) : qhm 4 RC.frmC W := by
 obtain⟨ps,⟨g',t',cs,fuel,p,q,hg',ht',hvar,hd,_,_⟩,_⟩:=h;obtain rfl:=Option.some.inj (qDO.symm.trans hg');obtain rfl:415=t':=Option.some.inj ((show (Tryz.prog.globals[4]?).map (·.type)=some 415 by kernel_rfl).symm.trans ht');obtain⟨xs,m,_,hxe,hl,hxl,hr⟩:=DataW.trod_array Tryz.underlying415 hd;rw[qfp]at hl;have hxm:xs.map (·.1)=frL.map Fr.da:=by
  have:=congrArg Prod.fst hxe
  rw[qzi]at this;exact (DataW.agg.inj this).symm
 have rows: ∀i r,frL[i]? =some r->(cs.toList.drop (i*4)).take 4=r.vl:=λi r hi=>by
  have hil:i<12:=(lgs.1 hi).1;have e1:(xs.map (·.1))[i]? =some r.da:=by rw[hxm,List.getElem?_map,hi];rfl
  rw[List.getElem?_map,Option.map_eq_some_iff]at e1;obtain⟨y,hy,hy1⟩:=e1;have h1:=hr i hil;rw[hy,qcH]at h1;exact qAh h1 hy1
 have hv: ∃T fz,W.heap[4]? =some (.cells cs T fz):=by
  unfold World.var? at hvar;rw[qDO]at hvar;simp only[Option.bind_some]at hvar;split at hvar
  ·rename_i c T fz hc;cases hvar;exact⟨_,_,hc⟩
  ·cases hvar
 obtain⟨T,fz,hc⟩:=hv;refine⟨cs,T,fz,hc,?_,?_⟩
 ·have:cs.size=48:=by simpa using hl
  rw[this];exact Nat.le_of_eq rfl
 intro i c x hi hx;have hij:i=i/4*4+i%4:=by omega
 rw[qzh,hij,qCe (λ_=>rfl) frL _ _ (Nat.mod_lt _ (by decide)),Option.bind_eq_some_iff]at hi;obtain⟨r,hr1,hr2⟩:=hi;have h2:=rows _ _ hr1;have h3:r.vl[i%4]? =some x:=by
  rw[<-h2,List.getElem?_take,ipo (Nat.mod_lt _ (by decide)),List.getElem?_drop,<-hij];simpa using hx
 have h4:i%4<4:=Nat.mod_lt _ (by decide);obtain⟨j,hj⟩:=wc (i%4)
 rw[<-hj]at hr2 h3 h4
 match j,h4 with
 |0,_=>cases hr2;cases h3;exact⟨rfl,λ_ _=> .str⟩
 |1,_=>cases hr2;cases h3;exact⟨rfl,λ_ _=> .bool⟩
 |2,_=>cases hr2;cases h3;exact⟨rfl,λ_ _=> .bool⟩
 |3,_=>cases hr2;cases h3;exact⟨rfl,λ_ _=> .bool⟩
theorem qtS{w w':World}(h:qhm 4 RC.frmC w)(e:w'.heap[4]? =w.heap[4]?):qhm 4 RC.frmC w':=by
 obtain⟨arr,T,fz,h1,h2⟩:=h;exact⟨arr,T,fz,e.trans h1,h2⟩
def qbv:List Nat:= [4,1,2,3]
def qAu(w:World):Prop:=RC.SG w∧qhm 4 RC.frmC w
theorem qvg:ku RC.SG [.pin qbv qAu]:=⟨0,_,_,rfl,λ_ h=>h.1⟩
theorem qvf:z6 [.pin qbv qAu] RC.frmN RC.frmC:=⟨0,_,_,rfl,by simp[qbv],λ_ h=>h.2⟩
theorem qAz{W:World}(h:laidMet Tryz.prog YtmieflnoheifbaaGreatDoor.Rows.topLemmataRow.laid W):qsq W∧qBo W∧qhm 4 RC.frmC W:=by
 have h2:=laidMet.tail (laidMet.tail h);have h3:=laidMet.tail h2;have h4:=laidMet.tail h3;have h5:=laidMet.tail h4;have h6:=laidMet.tail h5;obtain⟨a,s,e1,_⟩:=laid_sentinel (g:=3) (ti:=264) (tp:=427) (te:=429) (ts:=9) h4 qCz (by kernel_rfl) Tryz.underlying264 qsg Tryz.underlying427 Tryz.underlying429 rfl rfl Tryz.underlying9 (by kernel_rfl) (by kernel_rfl);obtain⟨b,t,e2,_⟩:=laid_sentinel (g:=2) (ti:=264) (tp:=427) (te:=429) (ts:=9) h5 qCA (by kernel_rfl) Tryz.underlying264 qsg Tryz.underlying427 Tryz.underlying429 rfl rfl Tryz.underlying9 (by kernel_rfl) (by kernel_rfl);exact⟨Lib.tabIs_of_head (t:=398) (e:=198) (n:=20) qCy (by kernel_rfl) Tryz.underlying398 Tryz.underlying198 (by kernel_rfl) (by kernel_rfl) h2,⟨⟨_,_,e2⟩,_,_,e1⟩,qCx h6⟩
theorem qqW{W:World}(h:laidMet Tryz.prog YtmieflnoheifbaaGreatDoor.Rows.topLemmataRow.laid W): ∀b,b∈qbv-> ∃arr T fz,W.heap[b]? =some (.cells arr T fz):=by
 intro b hb;obtain⟨h1,⟨⟨_,_,h2⟩,_,_,h3⟩,arr,T,fz,h4,_⟩:=qAz h;have e:b=4∨b=1∨b=2∨b=3:=by simpa[qbv] using hb
 rcases e with rfl|rfl|rfl|rfl
 ·exact⟨_,_,_,h4⟩
 ·exact qcm qCy h1
 ·exact qcm qCA h2
 ·exact qcm qCz h3
theorem qvk{W:World}(h:laidMet Tryz.prog YtmieflnoheifbaaGreatDoor.Rows.topLemmataRow.laid W): ∀w':World,(∀b,b∈qbv->w'.heap[b]? =W.heap[b]?)->qAu w':=by
 intro w' hs;obtain⟨h1,⟨⟨t1,p1,h2⟩,t2,p2,h3⟩,h4⟩:=qAz h;refine⟨⟨qqo h1 (hs 1 (by simp[qbv])),⟨t1,p1,?_⟩,t2,p2,?_⟩,qtS h4 (hs 4 (by simp[qbv]))⟩
 ·rw[qd3 qCA (hs 2 (by simp[qbv]))];exact h2
 ·rw[qd3 qCz (hs 3 (by simp[qbv]))];exact h3
end LN
end
